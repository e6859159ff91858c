/- A part of the proof for the ledger. No condition beyond those that each theorem states. -/
import Derived.Laws.EntriesVeiled
import Derived.Test.YtebkgbmijocdjaaGreatZ10
set_option maxHeartbeats 32000000
set_option maxRecDepth 100000
set_option linter.unusedVariables false
set_option linter.unusedSimpArgs false
namespace Go.Proofs.YtebkgbmijocdjaaGreat.Tp
open Go Go.RowKit
def Xtz (g1 g2 base:Nat)(v:Value)(f:Int)(M:List Spn)(t:Int)(w:World)(e:Ending)(w':World):Prop:=e = .returned (.tuple #[]) ∧ ∃v',(endR f t = [] → v' = v)∧Boxed w' g1 3 (.int .i64 (-1))∧Boxed w' g2 136 v' ∧ w'.ownsRow base 142 2 v' (M ++ endR f t).length ((M ++ endR f t).flatMap spE.f)∧w.heap.size≤w'.heap.size∧(∀j,j<w.heap.size→j ≠ g1→j ≠ g2→v.ownBlock ≠ some j→w'.heap[j]? = w.heap[j]?) ∧ ∀b0,b0≤base→b0≤g1→b0≤g2→Below b0 w w'
theorem Xqm (g1 g2 base:Nat)(v:Value)(f:Int)(M:List Spn)(t:Int)(w:World)(h1:Boxed w g1 3 (.int .i64 f))(h2:Boxed w g2 136 v)(h3:w.ownsRow base 142 2 v M.length (M.flatMap spE.f))(hb:base≤w.heap.size)(hM:M.length≤100000) :
  Calls Tryz.prog 138 #[.int .i64 t,.pointer (some ⟨g1,0,none⟩),.pointer (some ⟨g2,0,none⟩)] w (Xtz g1 g2 base v f M t w):=by
 have h12:g1 ≠ g2:=fun e=>by
  rw[e] at h1;have:=(show w.heap[g2]? = some _ from h1).symm.trans h2;simp at this
 have c1:=h1.cell;have f1:=h1.frozen;have c2:=h2.cell;have f2:=h2.frozen;have HNE:=Lib.hid h12;have H1:=Lib.hid h1;have H2:=Lib.hid h2;have H3:=Lib.hid h3;have HV1:=Lib.hid (h1.not_row (by decide) h3)
 obtain ⟨i0,hi0,hz0,hz1,hz2⟩:=info_parts Xmp;clear h1 h2 h3 h12;have hrb:∀j,v.ownBlock=some j→base≤j:=fun j hj=>(H3.out.lt j hj).1;have HRB:=Lib.hid hrb;clear hrb
 by_cases hf0:0≤f
 ·by_cases hft:f<t
  ·have HG:Hid (endR f t = [⟨f,t⟩]):=by show _=_; unfold endR; rw[if_pos ⟨hf0,hft⟩]
   go_enter Tryz.func138,Tryz.ntmps138;go_wp2_with (at_builtin; refine wpList_append_own_at _ rfl _ _ 136 rfl base 142 i0 (.agg #[.int .i64 0,.int .i64 0]) 2 16 Tryz.underlying136 hi0 hz0 hz1 hz2 rfl (by decide) _ _ _ rfl (H3.out.alloc _) ⟨w.heap.size,0,none⟩ 1 1 [.int .i64 f,.int .i64 t] rfl rfl ?d1 ?d2 ?d3 ?d4 ?d5 ?_)
   case d1=>exact fun j u hu=>by rw[Addr.add_mid,Nat.zero_add]; exact Xcj _ [.int .i64 f,.int .i64 t] _ rfl j u hu
   case d2=>exact fun u hu=>spE.one ⟨f,t⟩ u hu
   case d3=>unfold maxLen; omega
   case d4=>omega
   case d5=>simp; omega
   intro v' w4 hown' hg' _ _;have hown2:w4.ownsRow base 142 2 v' (M.length+1) ((M ++ endR f t).flatMap spE.f):=by
    rw[HG.out,List.flatMap_append,show [(⟨f,t⟩:Spn)].flatMap spE.f = [.int .i64 f,.int .i64 t] from rfl];exact hown'
   have y2:Boxed w4 g2 136 v:=(H2.out.alloc _).kept hg' (H2.out.not_row (by decide) H3.out)
   have y1:Boxed w4 g1 3 (.int .i64 f):=(H1.out.alloc _).kept hg' HV1.out;have x2:Boxed (w4.setCell ⟨g2,0,none⟩ v') g2 136 v':=y2.set v';have x1:Boxed (w4.setCell ⟨g2,0,none⟩ v') g1 3 (.int .i64 f):=y1.kept (grownBy_setCell' w4 g2 v') (fun e=>HNE.out (Option.some.inj e));have x3:(w4.setCell ⟨g2,0,none⟩ v').ownsRow base 142 2 v' (M.length+1) ((M ++ endR f t).flatMap spE.f):=hown2.kept (grownBy_setCell' w4 g2 v') (.inr (y2.not_row (by decide) hown2).symm)
   have z1:=x1.set (.int .i64 (-1));have z2:Boxed ((w4.setCell ⟨g2,0,none⟩ v').setCell ⟨g1,0,none⟩ (.int .i64 (-1))) g2 136 v':=x2.kept (grownBy_setCell' _ g1 _) (fun e=>HNE.out (Option.some.inj e).symm);have z3:((w4.setCell ⟨g2,0,none⟩ v').setCell ⟨g1,0,none⟩ (.int .i64 (-1))).ownsRow base 142 2 v' (M.length+1) ((M ++ endR f t).flatMap spE.f):=x3.kept (grownBy_setCell' _ g1 _) (.inr (x1.not_row (by decide) x3).symm)
   have z4:w.heap.size≤((w4.setCell ⟨g2,0,none⟩ v').setCell ⟨g1,0,none⟩ (.int .i64 (-1))).heap.size:=by have:=hg'.size; simp[World.setCell] at this ⊢; omega
   have z5:∀j,j<w.heap.size→j ≠ g1→j ≠ g2→v.ownBlock ≠ some j→((w4.setCell ⟨g2,0,none⟩ v').setCell ⟨g1,0,none⟩ (.int .i64 (-1))).heap[j]? = w.heap[j]? := by
    intro j hj h1 h2 hno;rw[Below.heap_setCell _ ⟨g1,0,none⟩ _ j h1,Below.heap_setCell w4 ⟨g2,0,none⟩ v' j h2];rw[hg'.block j (by simp; omega) (fun e=>hno e.symm)]
    exact Below.heap_alloc w _ j hj
   have z6:∀b0,b0≤base→b0≤g1→b0≤g2→Below b0 w ((w4.setCell ⟨g2,0,none⟩ v').setCell ⟨g1,0,none⟩ (.int .i64 (-1))):=fun b0 h1 h2 h3 =>
    ((((Below.refl b0 w).alloc (by omega) _).grown hg' (by simp; omega) (fun j hj=>Nat.le_trans h1 (HRB.out j hj))).setCell (p:=⟨g2,0,none⟩) h3 v').setCell (p:=⟨g1,0,none⟩) h2 _
   obtain ⟨A4,k4,rfl⟩:=Xh3 hown2;have c2':=y2.cell;have f2':=y2.frozen;have c1':=x1.cell;have f1':=x1.frozen;have HX:=Lib.hid (And.intro z1 (And.intro z2 (And.intro z3 (And.intro z4 (And.intro z5 z6)))));clear hown' hg' hown2 y1 y2 x1 x2 x3 z1 z2 z3 z4 z5 z6 c1 c2 f1 f2;go_wp2;obtain ⟨z1,z2,z3,z4,z5,z6⟩:=HX.out;have HL:Hid ((M ++ endR f t).length=M.length+1):=by show _=_; rw[HG.out]; simp
   go_end0;refine ⟨rfl,_,(fun h=>by have:=HG.out; rw[h] at this; cases this),z1,z2,?_,z4,z5,z6⟩
   rw[HL.out];exact z3
  ·have HG:Hid (endR f t = []):=by show _=_; unfold endR; rw[if_neg (by omega)]
   go_enter Tryz.func138,Tryz.ntmps138;go_wp2;go_end0;refine ⟨rfl,v,fun _=>rfl,H1.out.set _,H2.out.kept (grownBy_setCell' _ g1 _) (fun e=>HNE.out (Option.some.inj e).symm),?_,by simp[World.setCell],fun j hj h1 h2 hno=>Below.heap_setCell _ ⟨g1,0,none⟩ _ j h1,fun b0 h1 h2 h3=>(Below.refl b0 w).setCell (p:=⟨g1,0,none⟩) h2 _⟩
   rw[HG.out,List.append_nil];exact H3.out.kept (grownBy_setCell' _ g1 _) (.inr HV1.out.symm)
 ·have HG:Hid (endR f t = []):=by show _=_; unfold endR; rw[if_neg (by omega)]
  go_enter Tryz.func138,Tryz.ntmps138;go_wp2;go_end0;refine ⟨rfl,v,fun _=>rfl,H1.out.set _,H2.out.kept (grownBy_setCell' _ g1 _) (fun e=>HNE.out (Option.some.inj e).symm),?_,by simp[World.setCell],fun j hj h1 h2 hno=>Below.heap_setCell _ ⟨g1,0,none⟩ _ j h1,fun b0 h1 h2 h3=>(Below.refl b0 w).setCell (p:=⟨g1,0,none⟩) h2 _⟩
  rw[HG.out,List.append_nil];exact H3.out.kept (grownBy_setCell' _ g1 _) (.inr HV1.out.symm)
def atS (q sz:Int)(S:Int × List Spn)(t u:Int):Int × List Spn:=if q - u<sz then (-1,S.2 ++ endR S.1 t) else (if S.1<0 then t else S.1,S.2)
structure AtMem (w:World)(g4 g6 g7 g12 g11 g10:Nat)(Aq:Option Addr)(cq:Nat)(p:Pln)(n:Nat)(sz:Int):Prop where
 plan:w.cell? ⟨g4,0,none⟩=some (.slice Aq p.q.length cq)
 q:SlAt intE w Aq p.q
 node:w.cell? ⟨g6,0,none⟩=some (.int .i64 n)
 size:w.cell? ⟨g7,0,none⟩=some (.int .i64 sz)
 clos:w.cell? ⟨g12,0,none⟩=some (.func (.func 138) #[] #[.pointer (some ⟨g11,0,none⟩),.pointer (some ⟨g10,0,none⟩)])
def Xm0 (g1 g2 base:Nat)(v:Value)(M:List Spn)(S:Int × List Spn)(w:World)(e:Ending)(w':World):Prop:=e = .returned (.tuple #[]) ∧ ∃v',(S.2=M→v' = v)∧Boxed w' g1 3 (.int .i64 S.1)∧Boxed w' g2 136 v' ∧ w'.ownsRow base 142 2 v' S.2.length (S.2.flatMap spE.f)∧w.heap.size≤w'.heap.size∧(∀j,j<w.heap.size→j ≠ g1→j ≠ g2→v.ownBlock ≠ some j→w'.heap[j]? = w.heap[j]?) ∧ ∀b0,b0≤base→b0≤g1→b0≤g2→Below b0 w w'
theorem Xt3 (g4 g6 g7 g12 g1 g2 base:Nat)(Aq:Option Addr)(cq:Nat)(p:Pln)(n:Nat)(sz q:Int)(v:Value)(f:Int)(M:List Spn)(t u:Int)(w:World)(hm:AtMem w g4 g6 g7 g12 g1 g2 Aq cq p n sz)(hq:p.q[n]? = some q)(hql:p.q.length≤16)(hqb:0≤q∧q≤1073741824)(hu : -1000000000000≤u∧u≤1000000000000)(h1:Boxed w g1 3 (.int .i64 f))(h2:Boxed w g2 136 v)(h3:w.ownsRow base 142 2 v M.length (M.flatMap spE.f))(hb:base≤w.heap.size)(hM:M.length≤100000) :
  Calls Tryz.prog 139 #[.int .i64 t,.int .i64 u,.pointer (some ⟨g4,0,none⟩),.pointer (some ⟨g6,0,none⟩),.pointer (some ⟨g7,0,none⟩),.pointer (some ⟨g12,0,none⟩),.pointer (some ⟨g1,0,none⟩)] w (Xm0 g1 g2 base v M (atS q sz (f,M) t u) w):=by
 have hnl:n<p.q.length:=(List.getElem?_eq_some_iff.1 hq).1;obtain ⟨b,off,rfl,hr⟩:=hm.q.one (by omega)
 have cq0:w.cell? ⟨b,off+n,none⟩=some (.int .i64 q):=by
  have:=hr n q hq 0 _ rfl;simpa[intE] using this
 have c4:=hm.plan;have c6:=hm.node;have c7:=hm.size;have c12:=hm.clos;have c1:=h1.cell;have f1:=h1.frozen;have H1:=Lib.hid h1;have H2:=Lib.hid h2;have H3:=Lib.hid h3;have HV1:=Lib.hid (h1.not_row (by decide) h3)
 have h12:g1 ≠ g2:=fun e=>by
  rw[e] at h1;have:=(show w.heap[g2]? = some _ from h1).symm.trans h2;simp at this
 have HNE:=Lib.hid h12;have hn0:(0:Int)≤(n:Int):=by omega
 have hn1:(n:Int)<(p.q.length:Int):=by omega
 obtain ⟨hq1,hq2⟩:=hqb;obtain ⟨hu1,hu2⟩:=hu;have hsw:IntKind.i64.wrap (q - u)=q - u:=IntWalk.i64_in _ (by omega)
 clear hm hr hq h1 h2 h3 h12
 by_cases hc:q - u<sz
 ·have HG:Hid (atS q sz (f,M) t u=(-1,M ++ endR f t)):=by show _=_; unfold atS; rw[if_pos hc]
  have d1:decide (q - u<sz)=true:=by simpa using hc
  go_enter Tryz.func139,Tryz.ntmps139;go_wp2_with fail;go_quiet (fail);go_wp2_with fail;refine (Xqm g1 g2 base v f M t (w.drewN _) H1.out H2.out H3.out hb hM).mono ?_;rintro e w5 ⟨rfl,v',y0,y1,y2,y3,y4,y5,y6⟩;have HF:Hid (Xm0 g1 g2 base v M (atS q sz (f,M) t u) w (.returned (.tuple #[])) w5):=by
   show Xm0 _ _ _ _ _ _ _ _ _;rw[HG.out];exact ⟨rfl,v',fun h=>y0 (List.append_right_eq_self.1 h),y1,y2,y3,y4,y5,fun b0 h1 h2 h3=>⟨(y6 b0 h1 h2 h3).os,(y6 b0 h1 h2 h3).tape,(y6 b0 h1 h2 h3).output,(y6 b0 h1 h2 h3).size,(y6 b0 h1 h2 h3).block⟩⟩
  clear y0 y1 y2 y3 y4 y5 y6;go_wp2;go_end0;exact HF.out
 ·have HG:Hid (atS q sz (f,M) t u=(if f<0 then t else f,M)):=by show _=_; unfold atS; rw[if_neg hc]
  have d1:decide (q - u<sz)=false:=by simpa using hc
  by_cases hf:f<0
  ·have HG2:Hid (atS q sz (f,M) t u=(t,M)):=by show _=_; rw[HG.out,if_pos hf]
   go_enter Tryz.func139,Tryz.ntmps139;go_wp2_with fail;go_quiet (fail);go_wp2;go_end0;unfold Xm0;rw[HG2.out];exact ⟨rfl,v,fun _=>rfl,Boxed.set (W:=w.drewN _) _ H1.out,Boxed.kept (W:=w.drewN _) H2.out (grownBy_setCell' _ g1 _) (fun e=>HNE.out (Option.some.inj e).symm),World.ownsRow.kept (w:=w.drewN _) H3.out (grownBy_setCell' _ g1 _) (.inr HV1.out.symm),by simp[World.setCell],fun j hj h1 h2 hno=>Below.heap_setCell (w.drewN _) ⟨g1,0,none⟩ _ j h1,fun b0 h1 h2 h3=>(Xa4 (Below.refl b0 w) _).setCell (p:=⟨g1,0,none⟩) h2 _⟩
  ·have HG2:Hid (atS q sz (f,M) t u=(f,M)):=by show _=_; rw[HG.out,if_neg hf]
   go_enter Tryz.func139,Tryz.ntmps139;go_wp2_with fail;go_quiet (fail);go_wp2;go_end0;unfold Xm0;rw[HG2.out];exact ⟨rfl,v,fun _=>rfl,H1.out,H2.out,H3.out,Nat.le_refl _,fun _ _ _ _ _=>rfl,fun b0 _ _ _=>Xa4 (Below.refl b0 w) _⟩
def stS (q sz:Int)(S:Int × List Spn)(x:Lvl):Int × List Spn:=if x.at_<maxT then atS q sz S x.at_ x.val else S
theorem Xfa (q sz:Int):∀(F:List Lvl)(f:Int)(M:List Spn),(F.foldl (stS q sz) (f,M)).2 ++ endR (F.foldl (stS q sz) (f,M)).1 maxT=M ++ Xci q sz f F
 | [],f,M=>rfl
 | x :: F,f,M=>by
   rw[List.foldl_cons,Xci];unfold stS atS
   by_cases h1:x.at_<maxT
   ·rw[if_pos h1,if_pos h1]
    by_cases h2:q - x.val<sz
    ·rw[if_pos h2,if_pos h2];have:=Xfa q sz F (-1) (M ++ endR f x.at_);unfold stS atS at this;rw[this,List.append_assoc]
    ·rw[if_neg h2,if_neg h2];exact Xfa q sz F _ M
   ·rw[if_neg h1,if_neg h1];exact Xfa q sz F f M
theorem Xpu (q sz:Int)(F:List Lvl):Xc q sz F=(F.foldl (stS q sz) (atS q sz (-1, []) 0 0)).2 ++ endR (F.foldl (stS q sz) (atS q sz (-1, []) 0 0)).1 maxT:=by
 have h:atS q sz (-1, []) 0 0=(if q<sz then -1 else 0, []):=by
  unfold atS endR
  by_cases hc:q<sz
  ·rw[if_pos (by omega),if_pos hc]; simp
  ·rw[if_neg (by omega),if_neg hc]; simp
 rw[h];exact (Xfa q sz F _ []).symm
theorem Xpj (q sz:Int):∀(F:List Lvl)(S:Int × List Spn),(F.foldl (stS q sz) S).2.length≤S.2.length+F.length
 | [],S=>Nat.le_refl _
 | x :: F,S=>by
   have h1:=Xpj q sz F (stS q sz S x);have h2:(stS q sz S x).2.length≤S.2.length+1:=by
    unfold stS atS endR
    split
    ·split
     ·rw[List.length_append]; split <;> simp
     ·simp
    ·omega
   rw[List.foldl_cons,List.length_cons];omega
theorem Xnu (q sz:Int):(atS q sz (-1, []) 0 0).2 = []:=by
 unfold atS endR
 split <;> simp
theorem Xnv {wr:World}{g0 h:Nat}{Aq Ac:Option Addr}{cq cc:Nat}{p:Pln}{n:Nat}{sz:Int}(hq:SlAt intE wr Aq p.q)(h0:Bk wr g0 25 (plA Aq cq Ac cc p))(h1:Bk wr (g0+1) 3 #[.int .i64 n])(h2:Bk wr (g0+1+1) 3 #[.int .i64 sz])(h3:Bk wr (h+1+1) 213 #[.func (.func 138) #[] #[.pointer (some ⟨h+1,0,none⟩),.pointer (some ⟨h,0,none⟩)]]):AtMem wr g0 (g0+1) (g0+1+1) (h+1+1) (h+1) h Aq cq p n sz :=
 ⟨h0.cell 0,hq,h1.cell 0,h2.cell 0,h3.cell 0⟩
def Xtv (g1 g2 base:Nat)(S0:Int × List Spn)(q sz:Int)(F:List Lvl)(w W3:World)(i:Value)(wr:World):Prop:=∃k:Nat,k≤F.length∧i = .int .i64 k∧Below w.heap.size w wr∧W3.heap.size≤wr.heap.size∧(∀j,j<base→j ≠ g1→j ≠ g2→wr.heap[j]? = W3.heap[j]?)∧Boxed wr g1 3 (.int .i64 ((F.take k).foldl (stS q sz) S0).1) ∧ ∃v,Boxed wr g2 136 v∧wr.ownsRow base 142 2 v ((F.take k).foldl (stS q sz) S0).2.length (((F.take k).foldl (stS q sz) S0).2.flatMap spE.f)
theorem Xpn (Aq:Option Addr)(cq:Nat)(Ac:Option Addr)(cc:Nat)(p:Pln)(B:Option Addr)(cb:Nat)(l:List Hld)(n:Nat)(sz q:Int)(w:World)(hp:Xas w Aq cq Ac cc p)(hl:SlAt hdE w B l)(hok:Xbe p∧Xm p l)(hq:p.q[n]? = some q)(hsz:1≤sz∧sz≤65536) :
  Calls Tryz.prog 64 #[.agg (plA Aq cq Ac cc p),.slice B l.length cb,.int .i64 n,.int .i64 sz] w (Xt5 spE (Xc q sz (Xae l n)) 0 w):=by
 have HP:=Lib.hid hp;have HL:=Lib.hid hl;have HOK:=Lib.hid hok;have HQ:=Lib.hid hq;have hln:l.length≤512:=hok.2.1;have hql:p.q.length≤16:=hok.1.1.2.1;have hnl:n<p.q.length:=(List.getElem?_eq_some_iff.1 hq).1;have hqb:=hok.1.2.1 q (List.mem_of_getElem? hq);have HQB:=Lib.hid hqb;obtain ⟨hs1,hs2⟩:=hsz;have HCK:=Lib.hid (fun w hp hl=>Xhl Aq cq Ac cc p B cb l w hp hl hok);have HLV:=Lib.hid (fun w hl=>Xg3 B cb l n w hl (by omega) (fun h hh=>by
  have:=hok.2.2.1 h hh;unfold Xca at this;exact ⟨by omega,Xik (by omega) (by omega),Xik (by omega) (by omega)⟩))
 have HVB:Hid (∀x ∈ Xae l n,(-1000000000000≤x.val∧x.val≤1000000000000)):=fun x hx=>by
  have hv:∀h ∈ l,h.frm<h.til:=fun h hh=>by have:=hok.2.2.1 h hh; unfold Xca at this; omega
  have h1:=Xiy _ 0 (Xg2 l n) x hx;rw[Xeh hv] at h1;have h2:=hok.2.2.2.2 n q hq x.at_;have h3:0≤used l n x.at_:=by
   have:∀l:List Hld,(∀h ∈ l,0≤h.size)→0≤used l n x.at_:=fun l h=>Xdj h;exact this l (fun h hh=>by have:=hok.2.2.1 h hh; unfold Xca at this; omega)
  omega
 have hll:(Xae l n).length≤2000:=by
  have h1:=Xeg (chg (evL l n)) 0 (Xgi (evL l n));have h2:(Xgi (evL l n)).length=(Xay (evL l n)).length:=List.length_mergeSort _;have h3:=Xdb (evL l n);have h4:=Xhq l n;rw[←Xei] at h1;omega
 obtain ⟨_,_,rfl,rfl,-,HB0,HK0,HK1,HK2⟩:=box3 w 25 (plA Aq cq Ac cc p) 3 #[.int .i64 n] 3 #[.int .i64 sz];have hmf:=fun (fn:Fn) (first cap:Array Value) (w:World)=>(rfl:(Instr.makeFunc fn first cap).run Tryz.prog w = .ok (.func fn first cap) w)
 have hn0:(0:Int)≤(n:Int):=by omega
 have hn1:(n:Int)<(p.q.length:Int):=by omega
 clear hp hl hok hq hqb;go_enter Tryz.func64,Tryz.ntmps64;go_wp2_with fail;generalize ((w.alloc (.cells (plA Aq cq Ac cc p) 25)).alloc (.cells #[.int .i64 n] 3)).alloc (.cells #[.int .i64 sz] 3)=W at HB0 HK0 HK1 HK2 ⊢;generalize hg0:w.heap.size=g0 at HK0 HK1 HK2 ⊢;have HG0:=Lib.hid hg0;clear hg0;refine (HCK.out _ (HP.out.below HB0.out) (HL.out.below HB0.out)).mono ?_;rintro e w1 ⟨rfl,hb1⟩;have HB1:=Lib.hid (Xa HB0.out hb1);have HK01:=Lib.hid (HK0.out.below hb1 HK0.out.lt);have HK11:=Lib.hid (HK1.out.below hb1 HK1.out.lt);have HK21:=Lib.hid (HK2.out.below hb1 HK2.out.lt);clear hb1 HB0 HK0 HK1 HK2 HCK;have e0:=HK01.out.cell 0;have e1:=HK11.out.cell 0;have e2:=HK21.out.cell 0;go_wp2_with fail;have HB2:Hid (Below w.heap.size w (((w1.alloc (.cells #[.slice none 0 0] 136)).alloc (.cells #[.int .i64 (-1)] 3)).alloc (.cells #[.func (.func 138) #[] #[.pointer (some ⟨w1.heap.size+1,0,none⟩),.pointer (some ⟨w1.heap.size,0,none⟩)]] 213))):=by
  have:=HB1.out.size;exact ((HB1.out.alloc (by omega) _).alloc (by simp; omega) _).alloc (by simp; omega) _
 have HK02:=Lib.hid (((HK01.out.alloc (.cells #[.slice none 0 0] 136)).alloc (.cells #[.int .i64 (-1)] 3)).alloc (.cells #[.func (.func 138) #[] #[.pointer (some ⟨w1.heap.size+1,0,none⟩),.pointer (some ⟨w1.heap.size,0,none⟩)]] 213));have HK12:=Lib.hid (((HK11.out.alloc (.cells #[.slice none 0 0] 136)).alloc (.cells #[.int .i64 (-1)] 3)).alloc (.cells #[.func (.func 138) #[] #[.pointer (some ⟨w1.heap.size+1,0,none⟩),.pointer (some ⟨w1.heap.size,0,none⟩)]] 213));have HK22:=Lib.hid (((HK21.out.alloc (.cells #[.slice none 0 0] 136)).alloc (.cells #[.int .i64 (-1)] 3)).alloc (.cells #[.func (.func 138) #[] #[.pointer (some ⟨w1.heap.size+1,0,none⟩),.pointer (some ⟨w1.heap.size,0,none⟩)]] 213));have HO2:Hid (Boxed (((w1.alloc (.cells #[.slice none 0 0] 136)).alloc (.cells #[.int .i64 (-1)] 3)).alloc (.cells #[.func (.func 138) #[] #[.pointer (some ⟨w1.heap.size+1,0,none⟩),.pointer (some ⟨w1.heap.size,0,none⟩)]] 213)) w1.heap.size 136 (.slice none 0 0)):=((Boxed.new w1 _ _).alloc _).alloc _;have HF2:Hid (Boxed (((w1.alloc (.cells #[.slice none 0 0] 136)).alloc (.cells #[.int .i64 (-1)] 3)).alloc (.cells #[.func (.func 138) #[] #[.pointer (some ⟨w1.heap.size+1,0,none⟩),.pointer (some ⟨w1.heap.size,0,none⟩)]] 213)) (w1.heap.size+1) 3 (.int .i64 (-1))):=by
  have h:=Boxed.new (w1.alloc (.cells #[.slice none 0 0] 136)) 3 (.int .i64 (-1));rw[World.size_alloc] at h;exact h.alloc _
 have HC2:Hid (Bk (((w1.alloc (.cells #[.slice none 0 0] 136)).alloc (.cells #[.int .i64 (-1)] 3)).alloc (.cells #[.func (.func 138) #[] #[.pointer (some ⟨w1.heap.size+1,0,none⟩),.pointer (some ⟨w1.heap.size,0,none⟩)]] 213)) (w1.heap.size+1+1) 213 #[.func (.func 138) #[] #[.pointer (some ⟨w1.heap.size+1,0,none⟩),.pointer (some ⟨w1.heap.size,0,none⟩)]]):=by
  have h:=Bk.new ((w1.alloc (.cells #[.slice none 0 0] 136)).alloc (.cells #[.int .i64 (-1)] 3)) 213 #[.func (.func 138) #[] #[.pointer (some ⟨w1.heap.size+1,0,none⟩),.pointer (some ⟨w1.heap.size,0,none⟩)]];rw[World.size_alloc,World.size_alloc] at h;exact h
 have HZ2:Hid (w1.heap.size+3=(((w1.alloc (.cells #[.slice none 0 0] 136)).alloc (.cells #[.int .i64 (-1)] 3)).alloc (.cells #[.func (.func 138) #[] #[.pointer (some ⟨w1.heap.size+1,0,none⟩),.pointer (some ⟨w1.heap.size,0,none⟩)]] 213)).heap.size):=by show _=_; simp
 have HG3:Hid (g0+1+1<w1.heap.size∧w.heap.size≤w1.heap.size):=⟨HK21.out.lt,HB1.out.size⟩;generalize ((w1.alloc (.cells #[.slice none 0 0] 136)).alloc (.cells #[.int .i64 (-1)] 3)).alloc (.cells #[.func (.func 138) #[] #[.pointer (some ⟨w1.heap.size+1,0,none⟩),.pointer (some ⟨w1.heap.size,0,none⟩)]] 213)=W2 at HB2 HK02 HK12 HK22 HO2 HF2 HC2 HZ2 ⊢;generalize w1.heap.size=h at HO2 HF2 HC2 HZ2 HG3 ⊢;clear e0 e1 e2 HB1 HK01 HK11 HK21 hmf;refine (Xt3 g0 (g0+1) (g0+1+1) (h+1+1) (h+1) h W2.heap.size Aq cq p n sz q (.slice none 0 0) (-1) [] 0 0 W2 (Xnv (HP.out.q.below HB2.out) HK02.out HK12.out HK22.out HC2.out) HQ.out hql HQB.out (by omega) HF2.out HO2.out (World.ownsRow_nil _ _ _ _) (Nat.le_refl _) (by simp)).mono ?_
 rintro e w3 ⟨rfl,v3,y0,y1,y2,y3,y4,y5,y6⟩;obtain rfl:v3 = .slice none 0 0:=y0 (Xnu q sz);have hnn:(Value.slice none 0 0).ownBlock=none:=rfl;have HB3:Hid (Below w.heap.size w w3):=HB2.out.trans (y6 w.heap.size (by have:=HZ2.out; have:=HG3.out.2; omega) (by have:=HG3.out.2; omega) (by have:=HG3.out.2; omega))
 have hkp:∀j,j<W2.heap.size→j ≠ h+1→j ≠ h→w3.heap[j]? = W2.heap[j]? := fun j h1 h2 h3=>y5 j h1 h2 h3 (by rw[hnn]; simp)
 have HK03:Hid (Bk w3 g0 25 (plA Aq cq Ac cc p)):=Xch HK02.out (hkp _ HK02.out.lt (by have:=HG3.out; omega) (by have:=HG3.out; omega))
 have HK13:Hid (Bk w3 (g0+1) 3 #[.int .i64 n]):=Xch HK12.out (hkp _ HK12.out.lt (by have:=HG3.out; omega) (by have:=HG3.out; omega))
 have HK23:Hid (Bk w3 (g0+1+1) 3 #[.int .i64 sz]):=Xch HK22.out (hkp _ HK22.out.lt (by have:=HG3.out; omega) (by have:=HG3.out; omega))
 have HC3:Hid (Bk w3 (h+1+1) 213 #[.func (.func 138) #[] #[.pointer (some ⟨h+1,0,none⟩),.pointer (some ⟨h,0,none⟩)]]):=Xch HC2.out (hkp _ HC2.out.lt (by omega) (by omega))
 have HF3:=Lib.hid y1;have HO3:=Lib.hid y2;have HZ3:Hid (h+3≤w3.heap.size):=by have:=HZ2.out; show _≤_; omega
 obtain ⟨S0,hS0⟩:∃S0,S0=atS q sz (-1, []) 0 0:=⟨_,rfl⟩;have HS0:=Lib.hid hS0;rw[←hS0] at HF3;have HS2:Hid (S0.2 = []):=by rw[hS0]; exact Xnu q sz
 clear y0 y1 y2 y3 y4 y5 y6 hkp HB2 HK02 HK12 HK22 HO2 HF2 HC2 HZ2 hS0 hnn;have e1:=HK13.out.cell 0;go_wp2_with fail;refine (HLV.out _ (HL.out.below HB3.out)).mono ?_;rintro e W3 ⟨A2,c2,rfl,hs2,hc2,hbk2,hb3⟩;have HB4:Hid (Below w.heap.size w W3):=Xa HB3.out hb3;have HK04:=Lib.hid (HK03.out.below hb3 HK03.out.lt);have HK14:=Lib.hid (HK13.out.below hb3 HK13.out.lt);have HK24:=Lib.hid (HK23.out.below hb3 HK23.out.lt);have HC4:=Lib.hid (HC3.out.below hb3 HC3.out.lt);have HF4:Hid (Boxed W3 (h+1) 3 (.int .i64 S0.1)):=(hb3.block _ HF3.out.lt).trans HF3.out;have HO4:Hid (Boxed W3 h 136 (.slice none 0 0)):=(hb3.block _ HO3.out.lt).trans HO3.out;have HSL:=Lib.hid hs2;have HZ4:Hid (h+3≤W3.heap.size):=by have h1:=HZ3.out; have h2:=hb3.size; show _≤_; omega
 have HBK:Hid (∀a,A2=some a→h+3≤a.block):=fun a ha=>Nat.le_trans HZ3.out (hbk2 a ha);have HRI:Hid (Xc q sz (Xae l n)=((Xae l n).foldl (stS q sz) S0).2 ++ endR ((Xae l n).foldl (stS q sz) S0).1 maxT):=by
  show _=_;rw[HS0.out]; exact Xpu q sz _
 clear hs2 hc2 hbk2 hb3 e1 HK03 HK13 HK23 HC3 HF3 HO3 HZ3 HB3 HS0;generalize hF:Xae l n=F at hll HVB HSL HRI ⊢;have HFE:=Lib.hid hF;clear hF;go_wp2_with fail;go_loopw [15,45] (fun _ i wr=>Xtv (h+1) h W3.heap.size S0 q sz F w W3 i wr) (fun _ i _=>F.length - (intOf i).toNat)
 case atStart=>exact ⟨0,Nat.zero_le _,rfl,HB4.out,Nat.le_refl _,fun _ _ _ _=>rfl,HF4.out,_,HO4.out,by
  show World.ownsRow _ _ _ _ _ S0.2.length (S0.2.flatMap spE.f);rw[HS2.out];exact World.ownsRow_nil _ _ _ _⟩
 case round =>
  obtain ⟨k,hk,rfl,hb,hsz',hkeep,hfb,v,hob,hrow⟩:=hrel;have HB:=Lib.hid hb;have HKP:=Lib.hid hkeep;have HF:=Lib.hid hfb;have HO:=Lib.hid hob;have HR:=Lib.hid hrow;have HW0:Hid (Bk wr g0 25 (plA Aq cq Ac cc p)):=Xch HK04.out (hkeep _ HK04.out.lt (by have:=HG3.out; omega) (by have:=HG3.out; omega))
  have HW1:Hid (Bk wr (g0+1) 3 #[.int .i64 n]):=Xch HK14.out (hkeep _ HK14.out.lt (by have:=HG3.out; omega) (by have:=HG3.out; omega))
  have HW2:Hid (Bk wr (g0+1+1) 3 #[.int .i64 sz]):=Xch HK24.out (hkeep _ HK24.out.lt (by have:=HG3.out; omega) (by have:=HG3.out; omega))
  have HW3:Hid (Bk wr (h+1+1) 213 #[.func (.func 138) #[] #[.pointer (some ⟨h+1,0,none⟩),.pointer (some ⟨h,0,none⟩)]]):=Xch HC4.out (hkeep _ HC4.out.lt (by omega) (by omega))
  have HLM:Hid (((F.take k).foldl (stS q sz) S0).2.length≤100000):=by
   show _≤_;have h1:=Xpj q sz (F.take k) S0;have h2:(F.take k).length≤F.length:=by rw[List.length_take]; omega
   rw[HS2.out] at h1;simp at h1;omega
  clear hb hkeep hfb hob hrow
  by_cases hlt:k<F.length
  ·obtain ⟨b1,off1,rfl,hr⟩:=HSL.out.one (by omega)
   obtain ⟨x,hrk⟩:∃x,F[k]? = some x:=⟨_,List.getElem?_eq_getElem hlt⟩;have hb1l:b1<W3.heap.size:=World.block_lt_of_cell? _ _ (hr k x hrk 0 _ rfl);have hb1h:h+3≤b1:=HBK.out _ rfl;have hrg:wr.rangeAt b1 (off1+k * 2) (lvE.f x):=Xih (HKP.out b1 hb1l (by omega) (by omega)) (hr k x hrk)
   have c0:=Tp.rgLv hrg;have hxv:=HVB.out x (List.mem_of_getElem? hrk);have HXV:=Lib.hid hxv;have HSN:Hid ((F.take (k+1)).foldl (stS q sz) S0=stS q sz ((F.take k).foldl (stS q sz) S0) x):=by
    show _=_;rw[take_snoc hrk,List.foldl_append]; rfl
   clear hr hrk hrg hxv hb1l hb1h;generalize (F.take k).foldl (stS q sz) S0=S at HF HR HLM HSN;obtain ⟨f,M⟩:=S;simp only at HF HR HLM;have HVB2:Hid (∀j,j<W3.heap.size→v.ownBlock ≠ some j):=fun j hj e=>by have:=(HR.out.lt _ e).1; omega
   by_cases hxt:x.at_<1099511627776
   ·have HN:Hid ((F.take (k+1)).foldl (stS q sz) S0=atS q sz (f,M) x.at_ x.val):=by
     show _=_;rw[HSN.out];unfold stS maxT;rw[if_pos hxt]
    clear HSN;go_wp2_with fail;refine (Xt3 g0 (g0+1) (g0+1+1) (h+1+1) (h+1) h W3.heap.size Aq cq p n sz q v f M x.at_ x.val (wr.alloc (.cells #[.int .i64 x.at_,.int .i64 x.val] 216)) (Xnv (HP.out.q.below (HB.out.alloc HB.out.size _)) (HW0.out.alloc _) (HW1.out.alloc _) (HW2.out.alloc _) (HW3.out.alloc _)) HQ.out hql HQB.out HXV.out (HF.out.alloc _) (HO.out.alloc _) (HR.out.alloc _) (by simp; omega) HLM.out).mono ?_
    rintro e w5 ⟨rfl,v5,y0,y1,y2,y3,y4,y5,y6⟩;have HFIN:Hid (Xtv (h+1) h W3.heap.size S0 q sz F w W3 (.int .i64 (↑k+1)) w5):=by
     refine ⟨k+1,by omega,by go_num,(HB.out.alloc HB.out.size _).trans (y6 w.heap.size HB4.out.size (by have:=HG3.out.2; omega) (HG3.out.2)),by simp at y4; omega,fun j hj h1 h2=>?_,?_,v5,y2,?_⟩
     ·rw[y5 j (by simp; omega) h1 h2 (HVB2.out j hj),Below.heap_alloc wr _ j (by omega)]
      exact HKP.out j hj h1 h2
     ·rw[HN.out]; exact y1
     ·rw[HN.out]; exact y3
    clear y0 y1 y2 y3 y4 y5 y6 HN HF HO HR HW0 HW1 HW2 HW3 HKP c0;go_wp2;go_roundw
    case rel=>exact HFIN.out
    case measure=>simp[intOf]; omega
   ·have HN:Hid ((F.take (k+1)).foldl (stS q sz) S0=(f,M)):=by
     show _=_;rw[HSN.out];unfold stS maxT;rw[if_neg hxt]
    have HFIN:Hid (Xtv (h+1) h W3.heap.size S0 q sz F w W3 (.int .i64 (↑k+1)) (wr.alloc (.cells #[.int .i64 x.at_,.int .i64 x.val] 216))):=by
     refine ⟨k+1,by omega,by go_num,HB.out.alloc HB.out.size _,by simp; omega,fun j hj h1 h2=>?_,?_,v,HO.out.alloc _,?_⟩
     ·rw[Below.heap_alloc wr _ j (by omega)]
      exact HKP.out j hj h1 h2
     ·rw[HN.out]; exact HF.out.alloc _
     ·rw[HN.out]; exact HR.out.alloc _
    clear HN HF HO HR HW0 HW1 HW2 HW3 HKP HSN;go_wp2;go_roundw
    case rel=>exact HFIN.out
    case measure=>simp[intOf]; omega
  ·have HT:Hid (F.take k=F):=by show _=_; rw[List.take_of_length_le (by omega)]
   rw[HT.out] at HF HR HLM;generalize F.foldl (stS q sz) S0=S at HF HR HLM HRI;obtain ⟨f,M⟩:=S;simp only at HF HR HLM HRI;have c3:=HW3.out.cell 0;clear HT HSL HBK;go_wp2_with fail;refine (Xqm (h+1) h W3.heap.size v f M maxT wr HF.out HO.out HR.out hsz' HLM.out).mono ?_;rintro e w5 ⟨rfl,v5,y0,y1,y2,y3,y4,y5,y6⟩;have HBF:Hid (Below w.heap.size w w5):=HB.out.trans (y6 w.heap.size HB4.out.size (by have:=HG3.out.2; omega) HG3.out.2)
   rw[←HRI.out, ←HFE.out] at y3;obtain ⟨A5,k5,rfl,x1,x2,x3⟩:=Xab (E:=spE) y3;have d0:=y2.cell;have HX1:=Lib.hid x1;have HX3:Hid (∀a,A5=some a→w.heap.size≤a.block):=fun a ha=>by have h1:=x3 a ha; have h2:=HB4.out.size; omega
   clear x1 x3 y0 y1 y2 y3 y4 y5 y6 HB HF HO HR HW0 HW1 HW2 HW3 HKP HLM c3;go_wp2;go_ret2;exact ⟨A5,k5,rfl,HX1.out,x2,HX3.out,HBF.out⟩
theorem Xcp {l m:List Hld}(h:l.Perm m)(n t:Int):used l n t=used m n t:=by
 induction h with
 | nil=>rfl
 | cons x _ ih=>rw[Xb1,Xb1,ih]
 | swap x y l=>rw[Xb1,Xb1,Xb1,Xb1]; omega
 | trans _ _ h1 h2=>rw[h1,h2]
end Go.Proofs.YtebkgbmijocdjaaGreat.Tp
