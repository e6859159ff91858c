/- A part of the proof for the ledger. No condition beyond those that each theorem states. -/
import Derived.Test.YtebkgbmijocdjaaGreatZ49
set_option maxHeartbeats 32000000
set_option maxRecDepth 100000
set_option linter.unusedVariables false
set_option linter.unusedSimpArgs false
namespace Go.Proofs.YtebkgbmijocdjaaGreat.Tp
open Go Go.RowKit
theorem Xsi {p:Pln}{ts:List Tk}{q:Rq}{now:Int}{o:AccO}(h:AccR p ts q now o)(hn:Xbh ts):(o.acc=false∧o.ts=ts)∨o.acc=true∧o.ts.map (·.num)=ts.map (·.num) ++ [o.num]:=by
 cases h with
 | refused _ _=>exact .inl ⟨rfl,rfl⟩
 | plain _ _ _=>refine .inr ⟨rfl,?_⟩; rw[Xb hn rfl]; simp
 | exch h0 h1 h2 h3 h4 h5 h6 h7 =>
   rename_i t t2 pl m M D ts'
   refine .inr ⟨rfl,?_⟩;have h8:=Xfg h6;rw[Xb hn rfl] at h8;show ts'.map (·.num)=ts.map (·.num) ++ [Xad ts];have e:ts'.map (·.num)=(ts ++ [(⟨Xad ts,q,m,1,0⟩:Tk)]).map (·.num):=by
    apply List.ext_getElem?;intro i;rw[List.getElem?_map,List.getElem?_map]
    by_cases hi:i<(ts ++ [(⟨Xad ts,q,m,1,0⟩:Tk)]).length
    ·have h1:=List.getElem?_eq_getElem hi;obtain ⟨y,h2⟩:∃y,ts'[i]? = some y:=⟨_,List.getElem?_eq_getElem (by rw[h8.1]; exact hi)⟩
     rw[h1,h2];simp only[Option.map_some];rw[(h8.2 i _ _ h1 h2).1]
    ·rw[List.getElem?_eq_none (by rw[h8.1]; omega),List.getElem?_eq_none (by omega)]
   rw[e,List.map_append]
   rfl
structure CI (p:Pln)(ts:List Tk)(L:List Int):Prop where
 ok:LgOK p ts
 z:Zs p ts
 fd:∀n ∈ L,∃k,Xbg ts n=some k
 dn:∀k ∈ ts,k.num ∉ L→k.hops = [] ∧ k.til≤k.rq.ready
theorem CI.start {p:Pln}{ts:List Tk}(h:LgOK p ts)(hz:Zs p ts):CI p ts (ts.map (·.num)):=by
 refine ⟨h,hz,fun n hn=>?_,fun k hk hn=>absurd (List.mem_map.2 ⟨k,hk,rfl⟩) hn⟩;obtain ⟨k,hk,rfl⟩:=List.mem_map.1 hn;exact ⟨k,Xcd h.2.2.1 hk⟩
theorem Xq5 {L:List Int}{j:Nat}{n x:Int}(hj:L[j]? = some n)(hx:x ∈ L)(hn:x ∉ L.take j ++ L.drop (j+1)):x=n:=by
 obtain ⟨h1,h2⟩:=List.getElem?_eq_some_iff.1 hj;have e:L=L.take j ++ n :: L.drop (j+1):=by
  rw[←h2, ←List.drop_eq_getElem_cons h1,List.take_append_drop]
 rw[e] at hx;rcases List.mem_append.1 hx with h | h
 ·exact absurd (List.mem_append.2 (.inl h)) hn
 ·rcases List.mem_cons.1 h with h | h
  ·exact h
  ·exact absurd (List.mem_append.2 (.inr h)) hn
theorem Xqp {L:List Int}{j:Nat}{x:Int}(hx:x ∈ L.take j ++ L.drop (j+1)):x ∈ L:=by
 rcases List.mem_append.1 hx with h | h
 ·exact List.mem_of_mem_take h
 ·exact List.mem_of_mem_drop h
theorem Xjy {ts:List Tk}{n:Int}{k:Tk}(h:Xbg ts n=some k):k ∈ ts∧k.num=n:=by
 obtain ⟨h1,pre,post,e,_⟩:=Xau h;exact ⟨by rw[e]; simp,h1⟩
theorem CI.skip {p:Pln}{ts:List Tk}{L:List Int}(h:CI p ts L){j:Nat}{n:Int}(hj:L[j]? = some n){k:Tk}(hk:Xbg ts n=some k)(hs:k.st=2):CI p ts (L.take j ++ L.drop (j+1)):=by
 obtain ⟨hm,hnum⟩:=Xjy hk;refine ⟨h.ok,h.z,fun x hx=>h.fd x (Xqp hx),fun x hx hn=>?_⟩
 by_cases hl:x.num ∈ L
 ·have e:=Xq5 hj hl hn;have:=Xeu h.ok.2.2.1 hx hm (e.trans hnum.symm);subst this;rcases (h.z x hx).kind with h1 | ⟨_,h2,_,h4⟩
  ·have:=h1.1; omega
  ·exact ⟨h2,h4⟩
 ·exact h.dn x hx hl
theorem rest_of {k:Tk}{p:Pln}(hs:k.st=1)(hne:k.hops ≠ [])(hb:∀x,k.hops[0]? = some x→0<x.beg):Xd1 p 0 k=true∧begN 0 k.hops=0:=by
 obtain ⟨x,l,e⟩:∃x l,k.hops=x :: l:=by
  cases hh:k.hops with
  | nil=>exact absurd hh hne
  | cons x l=>exact ⟨x,l,rfl⟩
 have hx:0<x.beg:=hb x (by rw[e]; rfl)
 have hbe:begN 0 k.hops=0:=by
  rw[e];unfold begN;rw[List.takeWhile_cons,if_neg (by simpa using hx)]
  rfl
 refine ⟨?_,hbe⟩;unfold Xd1 posF;rw[hbe,if_pos ⟨hs,by rw[e]; simp⟩]
 simp
theorem CI.cancel {p:Pln}{ts:List Tk}{L:List Int}(h:CI p ts L){j:Nat}{n:Int}(hj:L[j]? = some n){k:Tk}(hk:Xbg ts n=some k)(hr:Xd1 p 0 k=true)(hb:begN 0 k.hops=0):CI p (setT ts (Xao 0 0 k)) (L.take j ++ L.drop (j+1)):=by
 obtain ⟨hm,hnum⟩:=Xjy hk;obtain ⟨c1,c2⟩:=Xlo h.ok h.z hm hr;obtain ⟨hk1,pre,post,e,hpre⟩:=Xau hk;have s1:setT ts (Xao 0 0 k)=pre ++ Xao 0 0 k :: post:=by
  rw[e];exact Xcq rfl (fun x hx=>by rw[show (Xao 0 0 k).num=k.num from rfl,hk1]; exact hpre x hx)
 have al:Al (Xbv [n]) ts (setT ts (Xao 0 0 k)):=by
  rw[s1,e];exact Al.one (Xbv.refl _) pre post ⟨rfl,rfl,fun _=>by rw[hk1]; simp⟩
 have hstop:(Xao 0 0 k).hops = []:=by unfold Xao; rw[hb]; rfl
 refine ⟨c1,c2,fun x hx=>?_,fun x hx hn=>?_⟩
 ·obtain ⟨y,hy⟩:=h.fd x (Xqp hx);obtain ⟨hym,rfl⟩:=Xjy hy;obtain ⟨z,hz,hzs⟩:=al.mem' hym;exact ⟨z,by rw[←hzs.1]; exact Xcd c1.2.2.1 hz⟩
 ·obtain ⟨y,hy,hys⟩:=al.mem hx
  by_cases hyk:x=y
  ·subst hyk
   by_cases hl:x.num ∈ L
   ·have e2:=Xq5 hj hl hn;have h3:x ∈ pre ++ Xao 0 0 k :: post:=by rw[←s1]; exact hx
    have h4:Xao 0 0 k ∈ setT ts (Xao 0 0 k):=by rw[s1]; simp
    have:=Xeu c1.2.2.1 hx h4 (by rw[e2]; exact hnum.symm)
    rw[this];exact ⟨hstop,(h.z k hm).rq.2.2.2.2.2.1⟩
   ·exact h.dn x hy hl
  ·have h5:y.num=n:=by have:=hys.2.2 hyk; simpa using this
   have h4:Xao 0 0 k ∈ setT ts (Xao 0 0 k):=by rw[s1]; simp
   have:=Xeu c1.2.2.1 hx h4 (by rw[hys.1,h5]; exact hnum.symm)
   rw[this];exact ⟨hstop,(h.z k hm).rq.2.2.2.2.2.1⟩
theorem CI.done {p:Pln}{ts:List Tk}(h:CI p ts []){t:Tbl}(ht:TblR p ts t):t.b = [] ∧ t.h = []:=by
 have hd:∀k ∈ ts,k.hops = [] ∧ k.til≤k.rq.ready:=fun k hk=>h.dn k hk (by simp)
 have h1:bksA ts = []:=by
  unfold bksA;rw[List.flatMap_eq_nil_iff];exact fun k hk=>Xea (hd k hk).1
 have h2:hdsA p ts = []:=by
  unfold hdsA;rw[List.flatMap_eq_nil_iff];exact fun k hk=>Xe6 (hd k hk).1 (hd k hk).2
 exact ⟨List.Perm.eq_nil (h1 ▸ ht.b),List.Perm.eq_nil (h2 ▸ ht.h)⟩
end Go.Proofs.YtebkgbmijocdjaaGreat.Tp
