/- A part of the proof for the ledger. No condition beyond those that each theorem states. -/
import Derived.Defers
import Derived.Recover
import Derived.Laws.Pointers
import Derived.Test.YtebkgbmijocdjaaGreatZ42
set_option maxHeartbeats 32000000
set_option maxRecDepth 100000
set_option linter.unusedVariables false
set_option linter.unusedSimpArgs false
namespace Go.Proofs.YtebkgbmijocdjaaGreat.Tp
open Go Go.RowKit
theorem Xhc (g:Nat)(b:Bool)(older:List PanicEntry)(w:World)(hB:Bk w g 4 #[.bool b]) :
  CallsD Tryz.prog 164 #[.pointer (some ⟨g,0,none⟩)] (.panicking ({ v:=.iface 237 (.agg #[]),recovered:=false } :: older)) w fun e u' w' =>
   e = .returned (.tuple #[])∧u' = .panicking ({ v:=.iface 237 (.agg #[]),recovered:=true } :: older)∧w' = (w.alloc (.cells #[] 237)).setCell ⟨g,0,none⟩ (.bool false):=by
 have hta:∀w:World,(Instr.typeAssert (.iface 237 (.agg #[])) 20 237 true).run Tryz.prog w = .ok (.tuple #[.agg #[],.bool true]) w:=fun w=>rfl;have hc:(w.alloc (.cells #[] 237)).cell? ⟨g,0,none⟩=some (.bool b):=(Bk.alloc hB _).cell 0;have hz:(w.alloc (.cells #[] 237)).frozen? ⟨g,0,none⟩=false:=(Bk.alloc hB _).free 0;refine callsD_of_wpS Tryz.func164 rfl fun c₀ cs hu=>?_;simp only[Tryz.ntmps164,List.size_toArray,List.length_cons,List.length_nil,Nat.reduceAdd,Nat.reduceSub,Array.replicate_succ,Array.replicate_zero,List.push_toArray,List.append_toArray,List.nil_append,List.cons_append];apply wpS_seq;apply wpS_region;simp[wpOpsS,go_sem,recoverD,hu,Exit.thenS];refine wpS_of_wp ?_;go_wp2;simp[bodyPostS,results,Tryz.results164]
theorem Xoe (g:Nat)(w:World) :
  CallsD Tryz.prog 164 #[.pointer (some ⟨g,0,none⟩)] .returning w fun e u' w' => e = .returned (.tuple #[])∧u' = .returning∧w' = w:=by
 refine callsD_of_wpS Tryz.func164 rfl fun c₀ cs hu=>?_;simp only[Tryz.ntmps164,List.size_toArray,List.length_cons,List.length_nil,Nat.reduceAdd,Nat.reduceSub,Array.replicate_succ,Array.replicate_zero,List.push_toArray,List.append_toArray,List.nil_append,List.cons_append];apply wpS_seq;apply wpS_region;simp[wpOpsS,go_sem,recoverD,hu,Exit.thenS];refine wpS_of_wp ?_;go_wp2;cases c₀
 simp_all [bodyPostS,results,Tryz.results164]
section
variable {n0 X:Nat} {w W W':World} {Aq:Option Addr} {cq:Nat} {Ac:Option Addr} {cc:Nat} {p:Pln} {now:Int} {x:ExV}
theorem ExS.vict {W1:World}{V':Option Addr}{c':Nat}{n:Int}(h:ExS n0 X w Aq cq Ac cc p now x W)(hM:x.vM = .slice none 0 0)(hD:x.vD = .slice none 0 0)(hrow:W.ownsRow n0 3 1 (.slice x.V x.vs.length x.cV) x.vs.length (x.vs.flatMap intE.f))(hg:W.grownBy W1 (Value.slice x.V x.vs.length x.cV).ownBlock)(hr:W1.ownsRow n0 3 1 (.slice V' (x.vs.length+1) c') (x.vs.length+1) (x.vs.flatMap intE.f ++ [.int .i64 n])) :
  Bk W1 X 120 #[.slice Aq p.q.length cq,.slice Ac p.c.length cc,.slice none 0 0,x.vT,.int .i64 now,.slice x.V x.vs.length x.cV,.bool x.acc,.int .i64 x.num,x.vM,x.vD,.slice none 0 0] ∧ ExS n0 X w Aq cq Ac cc p now { x with V:=V',cV:=c',vs:=x.vs ++ [n] } (W1.setCell ⟨X,5,none⟩ (.slice V' (x.vs.length+1) c'))∧(W1.setCell ⟨X,5,none⟩ (.slice V' (x.vs.length+1) c')).ownsRow n0 3 1 (.slice V' (x.vs.length+1) c') (x.vs ++ [n]).length ((x.vs ++ [n]).flatMap intE.f):=by
 have hf:=Fr.grown hg;have hx1:Bk W1 X 120 #[.slice Aq p.q.length cq,.slice Ac p.c.length cc,.slice none 0 0,x.vT,.int .i64 now,.slice x.V x.vs.length x.cV,.bool x.acc,.int .i64 x.num,x.vM,x.vD,.slice none 0 0]:=h.x.grown hg (Xa1 h.x (by decide) hrow)
 have hb1:Below n0 w W1:=h.c.be.grown hg h.c.gs (fun r e=>(hrow.lt r e).1);have hf2:=Fr.put W1 X 5 (.slice V' (x.vs.length+1) c');have hle:(x.vs ++ [n]).length=x.vs.length+1:=by simp
 have hr':W1.ownsRow n0 3 1 (.slice V' (x.vs ++ [n]).length c') (x.vs ++ [n]).length ((x.vs ++ [n]).flatMap intE.f):=by
  rw[hle,List.flatMap_append]; exact hr
 obtain ⟨A3,c3,e3,hs3,hc3,hb3⟩:=Xab (E:=intE) hr'
 injection e3 with e31 _ e33
 subst e31 e33;have nM:∀r,x.vM.ownBlock=some r→False:=fun r e=>by rw[hM] at e; cases e
 have nD:∀r,x.vD.ownBlock=some r→False:=fun r e=>by rw[hD] at e; cases e
 have hc1:ExC n0 w { x with V:=V',cV:=c',vs:=x.vs ++ [n] } W1:=by
  refine ⟨hb1,Xbz hrow h.c.rt (by decide) hg,Xde h.c.rm hf (fun r e=>(nM r e).elim),Xde h.c.rd hf (fun r e=>(nD r e).elim),hs3,hc3,fun a ha=>?_,h.c.md,fun m hm=>Xep (h.c.hp m hm) hf (fun j cs mk hj e=>?_),Nat.le_trans h.c.gs hg.size⟩
  ·have ha:V' = some a:=ha;refine ⟨hb3 a ha,Xbn hr' (by rw[ha]; rfl),fun e=>nM _ e,fun e=>nD _ e⟩
  ·obtain ⟨cs2,hc2⟩:=Xbn hrow e;unfold Bk at hc2;rw[hc2] at hj;cases hj
 have hx2:=hx1.put 5 (.slice V' (x.vs.length+1) c');refine ⟨hx1,⟨hc1.at hx1 (by decide) (by decide) (by decide) hf2 (hb1.setCell (p:=⟨X,5,none⟩) h.nX _),?_,h.nX⟩,?_⟩
 ·have e:(.slice V' (x.vs.length+1) c':Value) = .slice V' (x.vs ++ [n]).length c':=by rw[hle]
  rw[e] at hx2 ⊢;exact hx2
 ·rw[hle] at hr';rw[hle];exact hr'.kept (Xa0 W1 X 5 (.slice V' (x.vs.length+1) c')) (.inr (Xa1 hx1 (by decide) hr').symm)
theorem ExS.accd {b:Bool}{n:Int}(h:ExS n0 X w Aq cq Ac cc p now x W):ExS n0 X w Aq cq Ac cc p now { x with acc:=b,num:=n } ((W.setCell ⟨X,6,none⟩ (.bool b)).setCell ⟨X,7,none⟩ (.int .i64 n)):=by
 have hx1:=h.x.put 6 (.bool b);have hx2:=hx1.put 7 (.int .i64 n);have h1:=h.c.at h.x (by decide) (by decide) (by decide) (Fr.put W X 6 (.bool b)) (h.c.be.setCell (p:=⟨X,6,none⟩) h.nX _)
 have h2:=h1.at hx1 (by decide) (by decide) (by decide) (Fr.put _ X 7 (.int .i64 n)) (h1.be.setCell (p:=⟨X,7,none⟩) h.nX _)
 exact ⟨⟨h2.be,h2.rt,h2.rm,h2.rd,h2.sv,h2.vc,h2.vt,h2.md,h2.hp,h2.gs⟩,hx2,h.nX⟩
end
end Go.Proofs.YtebkgbmijocdjaaGreat.Tp
