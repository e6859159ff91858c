/- A part of the proof for the ledger. No condition beyond those that each theorem states. -/
import Derived.OpenShut
import Derived.ShutString
import Derived.Deep.Slices
import Derived.Test.YtebkgbmijocdjaaGreatZ49
set_option maxHeartbeats 32000000
set_option maxRecDepth 100000
set_option linter.unusedVariables false
set_option linter.unusedSimpArgs false
namespace Go.Proofs.YtebkgbmijocdjaaGreat.Tp
open Go Go.RowKit Go.ChangeShapes Go.WideShapes Go.Deep
theorem Xct {H:Type}{enc:TypeId × Value→H}{P:Program}{f:Func}{s:ChangeSpec}{apart fresh handsOn again:Bool}{W W':World}{args:Array Value}{v:Value}{ds gs:List (DataW H)}{before pa pv:List MemPlace}
  (hW:DataW.Whole enc P f.params.toList s.vars apart W args.toList ds gs before)
  (hres:∀(b:Nat) (sp:Nat→Bool) (hd:Bool),DataW.TrodAll enc P W' b sp hd f.resultTypes.toList (v.resultList f.resultTypes.size) (s.fn H (ds ++ gs)).results [])
  (hargs:∀sp:Nat→Bool,(∀p ∈ before,sp p.block=true)→DataW.TrodAll enc P W' 0 sp true f.params.toList args.toList (s.fn H (ds ++ gs)).args pa)
  (hvars:∀sp:Nat→Bool,(∀p ∈ before,sp p.block=true)→DataW.TrodVars enc P W' sp s.vars (s.fn H (ds ++ gs)).vars pv)
  (hps:before=pa ++ pv) (hb:Below W.heap.size W W')
  (hok:∀(j:Nat) (t:TypeId) (r:Value),f.resultTypes[j]? = some t→(v.resultList f.resultTypes.size)[j]? = some r→Value.okWide P W' .any 0 t r) :
  s.post enc P f apart fresh handsOn again W args v W':=by
 have hin:∀p ∈ before,p.block<W.heap.size:=fun p hp=>hW.lt p hp;have hsp:∀p ∈ before,(fun b=>decide (b<W.heap.size)) p.block=true:=fun p hp=>by simpa using hin p hp
 refine ⟨ds,gs,before, [],pa,pv,hW,hres _ _ _,hargs _ hsp,hvars _ hsp,World.keptBut_mono (fun p hp=>⟨hp,?_⟩) (hb.frame (· ∈ before)),fun _=>?_⟩
 ·rw[hps,List.mem_append] at hp;exact Or.inr hp
 ·obtain ⟨_,_,_,_,_,hz,hn⟩:=hW;refine ⟨hok,_,_,([] ++ pa) ++ pv,⟨[] ++ pa,pv,trodAll_append (hargs _ (fun _ _=>rfl)) (hres _ _ _),hvars _ (fun _ _=>rfl),rfl,?_,?_⟩,?_⟩
  ·intro b off hp;have hm:MemPlace.cell b off ∈ before:=by rw[hps]; simpa using hp
   rw[hb.frozen (hin _ hm)];exact hz b off hm
  ·intro ha;have h:=hn ha;rw[hps] at h;simpa using h
  ·intro p hp _;rw[hps];simpa using hp
section
variable {H:Type} {enc:TypeId × Value→H} {w:World} {base:Nat} {spare:Nat→Bool} {held:Bool}
theorem add_plain {a:Addr}{i:Nat}{v:Value}(h0:a.spot=none)(h:w.cell? (a.add i)=some v):w.cell? ⟨a.block,a.off+i,none⟩=some v:=by
 obtain ⟨b,off,spot⟩:=a;have hspot:spot=none:=h0;subst hspot;unfold Addr.add at h
 split at h
 ·rename_i hz; subst hz; exact h
 ·exact h
theorem Xd3 {α:Type}(E:Enc α)(z:α){S T:TypeId}(hS:Tryz.prog.underlying S=some (.slice T))(hT:Tryz.prog.cellsOf T=E.k)(hk:0<E.k)(opn:∀ {fuel:Nat}{cs:List Value}{x:DataW H × List MemPlace},DataW.trod enc Tryz.prog w base spare held fuel T cs=some x → ∃a,cs=E.f a)
  {fuel:Nat} {cs:List Value} {x:DataW H × List MemPlace} (h:DataW.trod enc Tryz.prog w base spare held fuel S cs=some x):∃(A:Option Addr) (l:List α) (c:Nat),cs = [.slice A l.length c] ∧ l.length≤maxLen∧SlAt E w A l∧l.length≤c:=by
 rcases open_slice hS h with ⟨rfl,_⟩ | ⟨a,len,cap,m,n,D,Pl,rfl,_,hl,hm,hmm,_,hi⟩
 ·exact ⟨none, [],0,rfl,Nat.zero_le _,SlAt.nil _ _,Nat.le_refl _⟩
 ·have hlm:len≤m:=by rw[hmm]; split <;> omega
  have one:∀i,i<m → ∃r:α,∀j v,(E.f r)[j]? = some v→w.cell? (a.add (i * E.k+j))=some v:=fun i him=>by
   obtain ⟨cs',hc,ht⟩:=hi i him;rw[hT] at hc;obtain ⟨_,hcl,hat⟩:=World.cells?_some hc;obtain ⟨r,rfl⟩:=opn ht;refine ⟨r,fun j v hv=>?_⟩;have hj:j<E.k:=by have:=(List.getElem?_eq_some_iff.1 hv).1; rwa [E.len] at this
   have h1:=hat j hj;rw[Go.Deep.add_add,hv] at h1;exact h1
  let F:Nat → α:=fun i=>if h:i<m then Classical.choose (one i h) else z
  have hF:∀i,i<m → ∀j v,(E.f (F i))[j]? = some v→w.cell? (a.add (i * E.k+j))=some v:=fun i him=>by
   show ∀j v,(E.f (if h:i<m then Classical.choose (one i h) else z))[j]? = some v→_
   simp only[dif_pos him];exact Classical.choose_spec (one i him)
  refine ⟨some a,(List.range len).map F,cap,by simp,by simp; omega,fun k r hk' => ?_,by simp; omega⟩
  have hkl:k<len:=by
   have:=(List.getElem?_eq_some_iff.1 hk').1;simpa using this
  rw[List.getElem?_map,List.getElem?_range hkl] at hk';simp only[Option.map_some,Option.some.injEq] at hk';subst hk';have g:=hF k (by omega)
  have hs:a.spot=none:=by
   have h0:∃u,(E.f (F 0))[0]? = some u:=⟨_,List.getElem?_eq_getElem (by rw[E.len]; exact hk)⟩
   obtain ⟨u,hu⟩:=h0;have g0:=World.cell?_spot (hF 0 (by omega) 0 u hu)
   simpa[Addr.add] using g0
  obtain ⟨b,off,sp⟩:=a;simp only at hs;subst hs;refine ⟨b,off,rfl,fun j v hv=>?_⟩;have:=add_plain rfl (g j v hv);rw[Nat.add_assoc];exact this
theorem Xth {fuel:Nat}{cs:List Value}{x:DataW H × List MemPlace}(h:DataW.trod enc Tryz.prog w base spare held fuel 3 cs=some x):∃a,cs=intE.f a:=by
 obtain ⟨a,e,_⟩:=DataW.trod_int Tryz.underlying3 h;exact ⟨a,e⟩
theorem Xti {fuel:Nat}{cs:List Value}{x:DataW H × List MemPlace}(h:DataW.trod enc Tryz.prog w base spare held fuel 104 cs=some x):∃a,cs=ctE.f a:=by
 obtain ⟨xs,n,_,_,hl,hxs,hf⟩:=DataW.trod_struct Tryz.underlying104 h;have hl5:cs.length=7:=hl.trans (by kernel_rfl)
 have hc1:Tryz.prog.cellsOf 3=1:=by kernel_rfl
 match cs,hl5 with
 | [c0,c1,c2,c3,c4,c5,c6],_ =>
   have f0:=hf 0 _ rfl;have f1:=hf 1 _ rfl;have f2:=hf 2 _ rfl;have f3:=hf 3 _ rfl;have f4:=hf 4 _ rfl;have f5:=hf 5 _ rfl;have f6:=hf 6 _ rfl;have hx:xs.length=7:=hxs
   match xs,hx with
   | [y0,y1,y2,y3,y4,y5,y6],_ =>
     simp[hc1] at f0 f1 f2 f3 f4 f5 f6;obtain ⟨a0,e0,_,_⟩:=DataW.trod_int Tryz.underlying3 f0;obtain ⟨a1,e1,_,_⟩:=DataW.trod_int Tryz.underlying3 f1;obtain ⟨a2,e2,_,_⟩:=DataW.trod_int Tryz.underlying3 f2;obtain ⟨a3,e3,_,_⟩:=DataW.trod_int Tryz.underlying3 f3;obtain ⟨a4,e4,_,_⟩:=DataW.trod_int Tryz.underlying3 f4;obtain ⟨a5,e5,_,_⟩:=DataW.trod_int Tryz.underlying3 f5;obtain ⟨a6,e6,_,_⟩:=DataW.trod_int Tryz.underlying3 f6;simp only[List.cons.injEq,and_true] at e0 e1 e2 e3 e4 e5 e6;exact ⟨⟨a0,a1,a2,a3,a4,a5,a6⟩,by rw[e0,e1,e2,e3,e4,e5,e6]; rfl⟩
theorem Xh5 {fuel:Nat}{cs:List Value}{x:DataW H × List MemPlace}(h:DataW.trod enc Tryz.prog w base spare held fuel 25 cs=some x):∃Aq cq Ac cc p,cs = [.slice Aq p.q.length cq,.slice Ac p.c.length cc] ∧ Xas w Aq cq Ac cc p:=by
 obtain ⟨xs,n,_,_,hl,hxs,hf⟩:=DataW.trod_struct Tryz.underlying25 h;have hl5:cs.length=2:=hl.trans (by kernel_rfl)
 have hc1:Tryz.prog.cellsOf 22=1:=by kernel_rfl
 have hc2:Tryz.prog.cellsOf 23=1:=by kernel_rfl
 match cs,hl5 with
 | [c0,c1],_ =>
   have f0:=hf 0 _ rfl;have f1:=hf 1 _ rfl;have hx:xs.length=2:=hxs
   match xs,hx with
   | [y0,y1],_ =>
     simp[hc1,hc2] at f0 f1;obtain ⟨Aq,lq,cq,e0,m0,s0,k0⟩:=Xd3 intE 0 Tryz.underlying22 (by kernel_rfl) (by decide) Xth f0
     obtain ⟨Ac,lc,cc,e1,m1,s1,k1⟩:=Xd3 ctE ⟨0,0,0,0,0,0,0⟩ Tryz.underlying23 (by kernel_rfl) (by decide) Xti f1
     simp only[List.cons.injEq,and_true] at e0 e1;exact ⟨Aq,cq,Ac,cc,⟨lq,lc⟩,by subst e0 e1; rfl,s0,s1,k0,k1,m0,m1⟩
theorem Xl8 {fuel:Nat}{cs:List Value}{x:DataW H × List MemPlace}(h:DataW.trod enc Tryz.prog w base spare held fuel 31 cs=some x):∃q,cs=rqL q:=by
 obtain ⟨xs,n,_,_,hl,hxs,hf⟩:=DataW.trod_struct Tryz.underlying31 h;have hl5:cs.length=7:=hl.trans (by kernel_rfl)
 have hc1:Tryz.prog.cellsOf 3=1:=by kernel_rfl
 have hc2:Tryz.prog.cellsOf 4=1:=by kernel_rfl
 match cs,hl5 with
 | [c0,c1,c2,c3,c4,c5,c6],_ =>
   have f0:=hf 0 _ rfl;have f1:=hf 1 _ rfl;have f2:=hf 2 _ rfl;have f3:=hf 3 _ rfl;have f4:=hf 4 _ rfl;have f5:=hf 5 _ rfl;have f6:=hf 6 _ rfl;have hx:xs.length=7:=hxs
   match xs,hx with
   | [y0,y1,y2,y3,y4,y5,y6],_ =>
     simp[hc1,hc2] at f0 f1 f2 f3 f4 f5 f6;obtain ⟨a0,e0,_,_⟩:=DataW.trod_int Tryz.underlying3 f0;obtain ⟨a1,e1,_,_⟩:=DataW.trod_int Tryz.underlying3 f1;obtain ⟨a2,e2,_,_⟩:=DataW.trod_int Tryz.underlying3 f2;obtain ⟨a3,e3,_,_⟩:=DataW.trod_int Tryz.underlying3 f3;obtain ⟨a4,e4,_,_⟩:=DataW.trod_int Tryz.underlying3 f4;obtain ⟨a5,e5,_,_⟩:=DataW.trod_int Tryz.underlying3 f5;obtain ⟨a6,e6,_⟩:=DataW.trod_bool Tryz.underlying4 f6;simp only[List.cons.injEq,and_true] at e0 e1 e2 e3 e4 e5 e6;exact ⟨⟨a0,a1,a2,a3,a4,a5,a6⟩,by rw[e0,e1,e2,e3,e4,e5,e6]; first | done | rfl⟩
end
end Go.Proofs.YtebkgbmijocdjaaGreat.Tp
namespace Go.Proofs.YtebkgbmijocdjaaGreat.Tp
open Go Go.RowKit Go.ChangeShapes Go.WideShapes Go.Deep
section
variable {H:Type} {enc:TypeId × Value→H} {w:World} {base:Nat} {spare:Nat→Bool} {held:Bool}
theorem Xjf {fuel:Nat}{cs:List Value}{x:DataW H × List MemPlace}(h:DataW.trod enc Tryz.prog w base spare held fuel 45 cs=some x):∃(A:Option Addr)(l:List Rq)(c:Nat),cs = [.slice A l.length c] ∧ l.length≤maxLen∧SlAt rqE w A l∧l.length≤c :=
 Xd3 rqE ⟨0,0,0,0,0,0,false⟩ Tryz.underlying45 (by kernel_rfl) (by decide) Xl8 h
end
end Go.Proofs.YtebkgbmijocdjaaGreat.Tp
