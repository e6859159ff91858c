/- A part of the proof for the ledger. No condition beyond those that each theorem states. -/
import Derived.Test.YtebkgbmijocdjaaGreatZ34
set_option maxHeartbeats 32000000
set_option maxRecDepth 100000
set_option linter.unusedVariables false
set_option linter.unusedSimpArgs false
namespace Go.Proofs.YtebkgbmijocdjaaGreat.Tp
open Go Go.RowKit
theorem Xiw {p:Pln}{q:Rq}(hq:RqOK p q){l:List Hop}{n a tk:Int}(h:Xbw p q n a l)(htk:0≤tk∧tk≤1152921504606846976):∀b ∈ bksL l tk,Xi8 p b:=fun b hb=>by
 obtain ⟨k,hk,rfl⟩:=List.mem_map.1 hb;have:=Xp6 hq h k hk;exact ⟨htk,this.2⟩
theorem Xc2.lt {p:Pln}{q:Rq}(hq:RqOK p q){n a:Int}{h:Hop}(hs:Xc2 p q n a h):a≤h.beg∧h.beg<h.fin∧h.fin<h.arr∧h.fin≤Xav q.cust (ctD p h.ct) h∧p.c[h.ct.toNat]? = some (ctD p h.ct):=by
 obtain ⟨c,⟨_,hc⟩,_,_,h3,h4,h5,h6⟩:=hs;have hct:=(hq.1.2.2.1 c (List.mem_of_getElem? hc)).1;have hd:=Xdw hct hq.2.2.2.2.1.1;have hr:=hct.2.2.2.1;have e1:h.fin=h.beg+dur c q.size:=by rw[h6]
 have e2:h.arr=h.beg+dur c q.size+c.rng:=by rw[h6]
 have e3:ctD p h.ct=c:=by unfold ctD; rw[List.getD_eq_getElem?_getD,hc]; rfl
 refine ⟨h3,by omega,by omega,?_,by rw[e3]; exact hc⟩
 rw[e3];unfold Xav
 split <;> omega
theorem Xlh {p:Pln}{q:Rq}(hq:RqOK p q){tk til:Int}:∀ {l:List Hop}{n a f:Int},Xbw p q n a l→(Xc7 p n a l).1=q.dst→f≤a→Xck p q tk til n f l=(Xfo p.c q.cust n f l).map fun k=>⟨k.node,k.frm,k.til,q.size,tk⟩
 | [],n,a,f,_,he,_=>by
   have he:n=q.dst:=he;rw[Xck,if_pos he]; rfl
 | h :: l,n,a,f,hw,he,hf=>by
   obtain ⟨c,hc,h1,h2,h3,h4,h5,h6,h7⟩:=hw;have hs:Xc2 p q n a h:=⟨c,hc,h1,h2,h3,h4,h5,h6⟩;obtain ⟨s1,s2,s3,s4,s5⟩:=hs.lt hq;have e3:ctD p h.ct=c:=by rw[s5] at hc; exact Option.some.inj hc.2
   rw[Xc7,hc.2] at he;have ih:=Xlh hq (tk:=tk) (til:=til) (f:=h.beg) h7 he (by omega)
   rw[Xck,Xfo,hc.2,e3];simp only[List.map_cons];rw[ih];unfold Xc9;rw[e3] at s4;rw[if_pos (by omega)]
   rfl
theorem Xim {p:Pln}{k:Tk}(h:Xax p k.rq k.hops):hdsT p k=Xcv p k.rq k.hops k.num:=Xlh h.1 h.2.2.2.1 h.2.2.2.2.1 (Int.le_refl _)
theorem Xe6 {p:Pln}{k:Tk}(h:k.hops = [])(ht:k.til≤k.rq.ready):hdsT p k = []:=by
 unfold hdsT;rw[h,Xck]
 split
 ·rfl
 ·unfold Xc9; rw[if_neg (by omega)]
theorem Xea {k:Tk}(h:k.hops = []):bksT k = []:=by unfold bksT; rw[h]; rfl
theorem Xke {p:Pln}{q:Rq}{l:List Hop}(a b n tm:Int):used (Xcv p q l a) n tm=used (Xcv p q l b) n tm:=by
 unfold Xcv
 induction Xfo p.c q.cust q.src q.ready l with
 | nil=>rfl
 | cons x l ih=>rw[List.map_cons,List.map_cons,Xb1,Xb1,ih]
theorem Xin {p:Pln}{q:Rq}{l:List Hop}{a b:Int}(hb:0≤b∧b≤1152921504606846976)(h:∀x ∈ Xcv p q l a,Xca p x):∀x ∈ Xcv p q l b,Xca p x:=fun x hx=>by
 obtain ⟨k,hk,rfl⟩:=List.mem_map.1 hx;have:=h _ (List.mem_map.2 ⟨k,hk,rfl⟩);unfold Xca at this ⊢;simp only at this ⊢;omega
theorem Xkd {p:Pln}{q:Rq}(hq:RqOK p q):∀ {l:List Hop}{n a:Int},Xbw p q n a l → ∀h ∈ l,a≤h.beg
 | [],_,_,_,h,hh=>by simp at hh
 | x :: l,n,a,hw,h,hh=>by
   obtain ⟨c,hc,h1,h2,h3,h4,h5,h6,h7⟩:=hw;have hs:Xc2 p q n a x:=⟨c,hc,h1,h2,h3,h4,h5,h6⟩;have:=hs.lt hq;rcases List.mem_cons.1 hh with e | e
   ·rw[e]; exact h3
   ·have:=Xkd hq h7 h e;omega
structure TkZ (p:Pln)(k:Tk):Prop where
 rq:RqOK p k.rq
 kind:k.st=1∧Xax p k.rq k.hops∧k.til=0∨k.st=2∧k.hops = [] ∧ 0≤k.til∧k.til≤k.rq.ready
 bk:∀b ∈ bksT k,Xi8 p b
 hd:∀x ∈ hdsT p k,Xca p x
theorem TkZ.ok {p:Pln}{k:Tk}(h:TkZ p k):TkOK p k:=by
 refine ⟨h.rq,?_⟩;rcases h.kind with h1 | ⟨h1,h2,h3,h4⟩
 ·exact .inl h1
 ·refine .inr ⟨h1,.inl h2,h3,?_⟩;have:=h.rq.2.2.2.2.2;omega
theorem TkZ.stop {p:Pln}{k:Tk}(h:TkZ p k){til:Int}(h0:0≤til)(h1:til≤k.rq.ready)(hb:begN 0 k.hops=0):TkZ p (Xao 0 til k):=by
 have e:(Xao 0 til k).hops = []:=by unfold Xao; rw[hb]; rfl
 refine ⟨h.rq,.inr ⟨rfl,e,h0,h1⟩,?_,?_⟩
 ·rw[Xea e]; simp
 ·rw[Xe6 e h1]; simp
theorem Xfc {p:Pln}{k:Tk}(h:TkZ p k)(hr:Xd1 p 0 k=true):k.st=1∧Xax p k.rq k.hops∧begN 0 k.hops=0∧(∀x ∈ k.hops,0<x.beg)∧posF p 0 k=some (k.rq.src,k.rq.ready):=by
 unfold Xd1 at hr;simp only[Bool.and_eq_true,List.all_eq_true] at hr;obtain ⟨h1,h2⟩:=hr;have hready:0≤k.rq.ready:=h.rq.2.2.2.2.2.1;have hpos:k.st=1∧begN 0 k.hops ≠ k.hops.length:=by
  unfold posF at h1
  split at h1
  ·assumption
  ·simp at h1
 have hk:Xax p k.rq k.hops:=by
  rcases h.kind with e | e
  ·exact e.2.1
  ·have:=hpos.1; omega
 have hb:begN 0 k.hops=0:=by
  cases hh:k.hops with
  | nil=>rfl
  | cons x l =>
    have hw:=hk.2.2.2.1;rw[hh] at hw;obtain ⟨c,hc,s1,s2,s3,s4,s5,s6,_⟩:=hw;have hs:Xc2 p k.rq k.rq.src k.rq.ready x:=⟨c,hc,s1,s2,s3,s4,s5,s6⟩;obtain ⟨t1,t2,t3,t4,_⟩:=hs.lt h.rq
    by_cases hx:x.beg≤0
    ·exfalso
     have hm:x ∈ k.hops.take (begN 0 k.hops):=by
      rw[hh];unfold begN;rw[List.takeWhile_cons,if_pos (by simpa using hx)]
      simp
     have:=h2 x hm;simp only[decide_eq_true_eq] at this;omega
    ·unfold begN;rw[List.takeWhile_cons,if_neg (by simpa using hx)]
     rfl
 refine ⟨hpos.1,hk,hb,?_,?_⟩
 ·have hne:=hk.2.1;cases hh:k.hops with
  | nil=>exact absurd hh hne
  | cons x l =>
    have hw:=hk.2.2.2.1;rw[hh] at hw hb;obtain ⟨c,hc,s1,s2,s3,s4,s5,s6,s7⟩:=hw;have hs:Xc2 p k.rq k.rq.src k.rq.ready x:=⟨c,hc,s1,s2,s3,s4,s5,s6⟩;have:=hs.lt h.rq;have hx:0<x.beg:=by
     by_cases e:x.beg≤0
     ·exfalso
      unfold begN at hb;rw[List.takeWhile_cons,if_pos (by simpa using e)] at hb
      simp at hb
     ·omega
    intro y hy;rcases List.mem_cons.1 hy with e | e
    ·rw[e]; exact hx
    ·have:=Xkd h.rq s7 y e;omega
 ·unfold posF;rw[if_pos hpos,hb];unfold Xo7;simp only[Option.some.injEq,Prod.mk.injEq,true_and];omega
structure VI (p:Pln)(ts:List Tk)(vs:List Int):Prop where
 pl:Xbe p
 nm:Xbh ts
 tk:∀k ∈ ts,TkZ p k
 nd:vs.Nodup
 vic:∀n ∈ vs,∃k ∈ ts,k.num=n∧Xd1 p 0 k=true
 ap:(bksA (ts.filter fun k => !vs.contains k.num)).Pairwise apartB
 us:∀(n:Nat) (q:Int),p.q[n]? = some q → ∀tm,used (hdsA p ts) n tm≤q
theorem Xcl (a b:List Tk):bksA (a ++ b)=bksA a ++ bksA b:=by unfold bksA; rw[List.flatMap_append]
theorem Xbl (p:Pln)(a b:List Tk):hdsA p (a ++ b)=hdsA p a ++ hdsA p b:=by unfold hdsA; rw[List.flatMap_append]
theorem Xbi (k:Tk)(b:List Tk):bksA (k :: b)=bksT k ++ bksA b:=by unfold bksA; rw[List.flatMap_cons]
theorem Xcw (p:Pln)(k:Tk)(b:List Tk):hdsA p (k :: b)=hdsT p k ++ hdsA p b:=by unfold hdsA; rw[List.flatMap_cons]
theorem Xsd {a b:List Tk}(h:a.Sublist b):(bksA a).Sublist (bksA b):=by
 induction h with
 | slnil=>exact List.Sublist.slnil
 | cons x _ ih=>rw[Xbi]; exact ih.trans (List.sublist_append_right _ _)
 | cons_cons x _ ih=>rw[Xbi,Xbi]; exact List.Sublist.append_left ih _
theorem Xlj {vs:List Int}:∀ {ts:List Tk},(∀k ∈ ts,k.num ∈ vs → ∀h ∈ k.hops,0<h.beg)→Xgj vs 0 (bksA ts)=bksA (ts.filter fun k => !vs.contains k.num)
 | [],_=>rfl
 | k :: ts,h=>by
   have ih:=Xlj (ts:=ts) fun x hx=>h x (by simp[hx])
   unfold Xgj at ih ⊢;rw[Xbi,List.filter_append,ih,List.filter_cons]
   by_cases hk:k.num ∈ vs
   ·have e1:vs.contains k.num=true:=by simpa using hk
    have e2:(bksT k).filter (fun b => !(vs.contains b.tick && decide (0<b.beg))) = []:=by
     rw[List.filter_eq_nil_iff];intro b hb;obtain ⟨x,hx,rfl⟩:=List.mem_map.1 hb;have:=h k (by simp) hk x hx
     simp only[e1,this,decide_true,Bool.and_self,Bool.not_true];simp
    rw[e2,e1];simp
   ·have e1:vs.contains k.num=false:=by simpa using hk
    have e2:(bksT k).filter (fun b => !(vs.contains b.tick && decide (0<b.beg)))=bksT k:=by
     rw[List.filter_eq_self];intro b hb;obtain ⟨x,hx,rfl⟩:=List.mem_map.1 hb;simp only[e1,Bool.false_and,Bool.not_false]
    rw[e2,e1];simp[Xbi]
theorem VI.beg {p:Pln}{ts:List Tk}{vs:List Int}(h:VI p ts vs){ws:List Int}(hw:∀n ∈ ws,n ∈ vs):∀k ∈ ts,k.num ∈ ws → ∀x ∈ k.hops,0<x.beg:=fun k hk hn=>by
 obtain ⟨k',hk',e,hr⟩:=h.vic _ (hw _ hn);have:=Xeu h.nm hk' hk e;subst this;exact (Xfc (h.tk k' hk') hr).2.2.2.1
theorem Xor {vs:List Int}{now:Int}{L M:List Bkg}(h:L.Perm M):(Xgj vs now L).Perm (Xgj vs now M):=h.filter _
theorem VI.without {p:Pln}{pre post:List Tk}{k:Tk}{vs:List Int}(h:VI p (pre ++ k :: post) (k.num :: vs)):((pre ++ k :: post).filter fun x => !(k.num :: vs).contains x.num)=(pre ++ post).filter (fun x => !vs.contains x.num):=by
 have hp:∀x ∈ pre ++ post,x.num ≠ k.num:=fun x hx=>by
  have h1:=h.nm.2;rw[List.pairwise_append] at h1;rcases List.mem_append.1 hx with e | e
  ·have:=h1.2.2 x e k (by simp); omega
  ·have:=(List.pairwise_cons.1 h1.2.1).1 x e; omega
 rw[List.filter_append,List.filter_append,List.filter_cons];have e1:((k.num :: vs).contains k.num)=true:=by simp
 rw[e1];simp only[Bool.not_true,Bool.false_eq_true,if_false]
 congr 1
 ·apply List.filter_congr;intro x hx;have:=hp x (by simp[hx])
  simp[this]
 ·apply List.filter_congr;intro x hx;have:=hp x (by simp[hx])
  simp[this]
theorem VI.step {p:Pln}{ts ts':List Tk}{n:Int}{vs:List Int}{mv:Bool}(h:VI p ts (n :: vs))(hm:Xn5 p 0 ts n vs ts' mv):VI p ts' vs:=by
 obtain ⟨k,hf,nd,tm,hpos,t,hx,hm⟩:=hm;obtain ⟨hk,pre,post,rfl,hpre⟩:=Xau hf;subst hk;obtain ⟨k0,hk0,e0,hr0⟩:=h.vic k.num (by simp)
 have:=Xeu h.nm hk0 (by simp:k ∈ pre ++ k :: post) e0
 subst this;have hz:=h.tk k0 (by simp)
 obtain ⟨z1,z2,z3,z4,z5⟩:=Xfc hz hr0;rw[z5] at hpos;simp only[Option.getD_some,Prod.mk.injEq] at hpos;obtain ⟨rfl,rfl⟩:=hpos;have hready:0≤k0.rq.ready:=hz.rq.2.2.2.2.2.1;have hq:({ k0.rq with src:=k0.rq.src,ready:=k0.rq.ready }:Rq)=k0.rq:=rfl
 rw[hq] at hm;have s1:setT (pre ++ k0 :: post) (Xao 0 k0.rq.ready k0)=pre ++ Xao 0 k0.rq.ready k0 :: post:=Xcq rfl hpre;rw[s1] at hm hx;have s2:∀k':Tk,k'.num=k0.num→setT (pre ++ Xao 0 k0.rq.ready k0 :: post) k' = pre ++ k' :: post:=fun k' e=>Xcq (by rw[e]; rfl) (fun x hx=>by rw[e]; exact hpre x hx)
 have hwo:=h.without;have hpp:∀x ∈ pre ++ post,x ∈ pre ++ k0 :: post:=fun x hx=>by
  rcases List.mem_append.1 hx with e | e
  ·simp[e]
  ·simp[e]
 have hnd:=List.nodup_cons.1 h.nd;have hne:∀x ∈ pre ++ post,x.num ≠ k0.num:=fun x hx=>by
  have h1:=h.nm.2;rw[List.pairwise_append] at h1;rcases List.mem_append.1 hx with e | e
  ·have:=h1.2.2 x e k0 (by simp); omega
  ·have:=(List.pairwise_cons.1 h1.2.1).1 x e; omega
 have fin:∀k':Tk,k'.num=k0.num→TkZ p k' → (bksT k' ++ bksA ((pre ++ post).filter fun x => !vs.contains x.num)).Pairwise apartB→(∀(n:Nat) (q:Int),p.q[n]? = some q → ∀tm,used (hdsT p k' ++ hdsA p (pre ++ post)) n tm≤q)→VI p (pre ++ k' :: post) vs:=fun k' e hk' hap hus=>by
  have al:Al (fun a b=>b.num=a.num) (pre ++ k0 :: post) (pre ++ k' :: post):=Al.one (R:=fun a b=>b.num=a.num) (fun _=>rfl) pre post e;refine ⟨h.pl,?_,fun x hx=>?_,hnd.2,fun n hn=>?_,?_,fun n q hq tm=>?_⟩
  ·have hnm:=h.nm;refine ⟨fun x hx=>?_,?_⟩
   ·obtain ⟨a,ha,e2⟩:=al.mem hx;rw[e2]; exact hnm.1 a ha
   ·have h2:=hnm.2;rw[List.pairwise_append,List.pairwise_cons] at h2 ⊢;refine ⟨h2.1,⟨fun x hx=>by rw[e]; exact h2.2.1.1 x hx,h2.2.1.2⟩,fun a ha b hb=>?_⟩
    rcases List.mem_cons.1 hb with e3 | e3
    ·rw[e3,e]; exact h2.2.2 a ha k0 (by simp)
    ·exact h2.2.2 a ha b (by simp[e3])
  ·rcases List.mem_append.1 hx with e2 | e2
   ·exact h.tk x (by simp[e2])
   ·rcases List.mem_cons.1 e2 with e3 | e3
    ·rw[e3]; exact hk'
    ·exact h.tk x (by simp[e3])
  ·obtain ⟨x,hx,e2,hr⟩:=h.vic n (by simp[hn])
   have hxk:x ≠ k0:=fun e3=>hnd.1 (by rw[←e3,e2]; exact hn)
   refine ⟨x,?_,e2,hr⟩;rcases List.mem_append.1 hx with e3 | e3
   ·simp[e3]
   ·rcases List.mem_cons.1 e3 with e4 | e4
    ·exact absurd e4 hxk
    ·simp[e4]
  ·have hperm:(bksA ((pre ++ k' :: post).filter fun x => !vs.contains x.num)).Perm (bksT k' ++ bksA ((pre ++ post).filter fun x => !vs.contains x.num)):=by
    have e1:vs.contains k'.num=false:=by rw[e]; simpa using hnd.1
    rw[List.filter_append,List.filter_cons,e1];simp only[Bool.not_false,if_true];rw[Xcl,Xbi,List.filter_append,Xcl];exact (List.perm_append_comm_assoc _ _ _)
   exact hperm.symm.pairwise hap (fun {a b} h=>h.symm)
  ·have hperm:(hdsA p (pre ++ k' :: post)).Perm (hdsT p k' ++ hdsA p (pre ++ post)):=by
    rw[Xbl,Xcw,Xbl];exact (List.perm_append_comm_assoc _ _ _)
   rw[Xcp hperm];exact hus n q hq tm
 have hrest:(bksA ((pre ++ post).filter fun x => !vs.contains x.num)).Pairwise apartB:=by rw[←hwo]; exact h.ap
 have hposh:∀n tm,used (hdsA p (pre ++ post)) n tm≤used (hdsA p (pre ++ k0 :: post)) n tm:=fun n tm=>by
  have hperm:(hdsA p (pre ++ k0 :: post)).Perm (hdsT p k0 ++ hdsA p (pre ++ post)):=by
   rw[Xbl,Xcw,Xbl];exact (List.perm_append_comm_assoc _ _ _)
  rw[Xcp hperm,Xdk];have:=Xdj (n:=n) (tm:=tm) (a:=hdsT p k0) (fun x hx=>by have:=hz.hd x hx; unfold Xca at this; omega)
  omega
 rcases hm with ⟨_,m,he,rfl⟩ | ⟨_,_,_,rfl⟩
 ·
  rw[s2 (resF 0 m k0) rfl];obtain ⟨g1,_,n',_,hg⟩:=he.good;obtain ⟨t0,ht0,_,rfl⟩:=hx;have htp:t0.p=p:=ht0.pl;have hk2:resF 0 m k0 = { k0 with hops:=m }:=by unfold resF; rw[z3]; rfl
  have hnum:=h.nm.1 k0 (by simp)
  have hrt:Xax p k0.rq m:=by have:=hg.rt; rwa [htp] at this
  have hrt2:Xax p (resF 0 m k0).rq (resF 0 m k0).hops:=by rw[hk2]; exact hrt
  have hhd:hdsT p (resF 0 m k0)=Xcv p k0.rq m k0.num:=by rw[Xim hrt2,hk2]
  have hbk:bksT (resF 0 m k0)=bksL m k0.num:=by rw[hk2]; rfl
  have hb1:((pre ++ Xao 0 k0.rq.ready k0 :: post).filter fun x => !vs.contains x.num)=pre.filter (fun x => !vs.contains x.num) ++ Xao 0 k0.rq.ready k0 :: post.filter (fun x => !vs.contains x.num):=by
   have e1:vs.contains (Xao 0 k0.rq.ready k0).num=false:=by show vs.contains k0.num=false; simpa using hnd.1
   rw[List.filter_append,List.filter_cons,e1];simp
  have hstop:(Xao 0 k0.rq.ready k0).hops = []:=by unfold Xao; rw[z3]; rfl
  have hb2:bksA ((pre ++ Xao 0 k0.rq.ready k0 :: post).filter fun x => !vs.contains x.num)=bksA ((pre ++ post).filter fun x => !vs.contains x.num):=by
   rw[hb1,Xcl,Xbi,Xea hstop,List.filter_append,Xcl]; rfl
  have hh2:hdsA p (pre ++ Xao 0 k0.rq.ready k0 :: post)=hdsA p (pre ++ post):=by
   rw[Xbl,Xcw,Xe6 hstop (Int.le_refl _),Xbl]; rfl
  have hfb:Xgj vs 0 (bksA (pre ++ Xao 0 k0.rq.ready k0 :: post))=bksA ((pre ++ post).filter fun x => !vs.contains x.num):=by
   rw[←hb2];refine Xlj fun x hx hn=>?_;rcases List.mem_append.1 hx with e2 | e2
   ·exact h.beg (ws:=vs) (fun n hn=>by simp[hn]) x (by simp[e2]) hn
   ·rcases List.mem_cons.1 e2 with e3 | e3
    ·rw[e3,hstop]; simp
    ·exact h.beg (ws:=vs) (fun n hn=>by simp[hn]) x (by simp[e3]) hn
  have hpb:(Xgj vs 0 t0.b).Perm (bksA ((pre ++ post).filter fun x => !vs.contains x.num)):=by
   rw[←hfb]; exact Xor ht0.b
  refine fin _ (by rw[hk2]) ⟨by rw[hk2]; exact hz.rq,.inl ⟨by rw[hk2]; exact z1,hrt2,by rw[hk2]; rcases hz.kind with e | e; exact e.2.2; (have:=e.1; omega)⟩,?_,?_⟩ ?_ ?_
  ·rw[hbk];exact Xiw hz.rq hrt.2.2.2.1 ⟨by omega,hnum.2⟩
  ·rw[hhd];have:=hg.hd;simp only[htp] at this;exact Xin ⟨by omega,hnum.2⟩ this
  ·rw[hbk];have hap:=hg.ap;simp only at hap;have hap2:=(List.Perm.append_left (bksL m 0) hpb).pairwise hap (fun {a b} h=>h.symm);rw[List.pairwise_append] at hap2 ⊢;refine ⟨?_,hap2.2.1,fun a ha b hb=>?_⟩
   ·have:=hap2.1;unfold bksL at this ⊢;rw[List.pairwise_map] at this ⊢;exact this
   ·obtain ⟨x,hx,rfl⟩:=List.mem_map.1 ha;exact hap2.2.2 ⟨x.ct,x.beg,x.fin,0⟩ (List.mem_map.2 ⟨x,hx,rfl⟩) b hb
  ·intro n q hq tm;have hus:=hg.us n q (by simp only[htp]; exact hq) tm
   simp only[htp] at hus;rw[Xdk] at hus ⊢;rw[hhd,Xke k0.num 0];have hp2:t0.h.Perm (hdsA p (pre ++ post)):=by rw[←hh2]; exact ht0.h
   rw[Xcp hp2] at hus;exact hus
 ·
  rw[s2 (Xao 0 0 k0) rfl];have hstop:(Xao 0 0 k0).hops = []:=by unfold Xao; rw[z3]; rfl
  refine fin _ rfl (hz.stop (Int.le_refl _) hready z3) ?_ ?_
  ·rw[Xea hstop]; exact hrest
  ·intro n q hq tm;rw[Xe6 hstop hready];have:=h.us n q hq tm;have:=hposh n tm;simp only[List.nil_append];omega
theorem VI.steps {p:Pln}{ts ts':List Tk}{vs M D:List Int}(hm:Xd0 p 0 ts vs M D ts')(h:VI p ts vs):VI p ts' []:=by
 induction hm with
 | nil ts=>exact h
 | moved h1 _ ih=>exact ih (h.step h1)
 | dropped h1 _ ih=>exact ih (h.step h1)
def Zs (p:Pln)(ts:List Tk):Prop:=∀k ∈ ts,TkZ p k
theorem LgOK.vi {p:Pln}{ts:List Tk}(h:LgOK p ts)(hz:Zs p ts):VI p ts []:=by
 refine ⟨h.1,h.2.2.1,hz,List.nodup_nil,by simp,?_,h.2.2.2.2.2.2.2⟩
 have e:(ts.filter fun k => !([]:List Int).contains k.num)=ts:=by
  rw[List.filter_eq_self]; simp
 rw[e];exact h.2.2.2.2.1.2.2
theorem Xnt {ts:List Tk}{b:Bkg}(h:b ∈ bksA ts):∃k ∈ ts,b ∈ bksT k:=List.mem_flatMap.1 h
theorem Xrz {p:Pln}{ts:List Tk}{b:Hld}(h:b ∈ hdsA p ts):∃k ∈ ts,b ∈ hdsT p k:=List.mem_flatMap.1 h
theorem VI.ok {p:Pln}{ts:List Tk}(h:VI p ts [])(hl:ts.length≤64)(h1:(bksA ts).length≤512)(h2:(hdsA p ts).length≤512):LgOK p ts:=by
 have e:(ts.filter fun k => !([]:List Int).contains k.num)=ts:=by
  rw[List.filter_eq_self]; simp
 have hap:=h.ap;rw[e] at hap;refine ⟨h.pl,hl,h.nm,fun k hk=>(h.tk k hk).ok,⟨h1,fun b hb=>?_,hap⟩,⟨h2,fun b hb=>?_,h.us⟩⟩
 ·obtain ⟨k,hk,hb⟩:=Xnt hb;exact (h.tk k hk).bk b hb
 ·obtain ⟨k,hk,hb⟩:=Xrz hb;exact (h.tk k hk).hd b hb
theorem Xil {ts:List Tk}(hn:Xbh ts){k:Tk}(hk:k.num=Xad ts)(hm:Xad ts≤1152921504606846976):Xbh (ts ++ [k]):=by
 have:=Xe3 hn;refine ⟨fun x hx=>?_,?_⟩
 ·rcases List.mem_append.1 hx with e | e
  ·exact hn.1 x e
  ·rw[List.mem_singleton.1 e,hk]; exact ⟨this.1,hm⟩
 ·rw[List.pairwise_append];refine ⟨hn.2,by simp,fun a ha b hb=>?_⟩
  rw[List.mem_singleton.1 hb,hk];exact this.2 a ha
theorem VI.snoc {p:Pln}{ts:List Tk}{q:Rq}{m:List Hop}{n:Int}{t:Tbl}{vs:List Int}(h:VI p ts [])(hm:Xad ts≤1152921504606846976)(hg:Good t q n m)(htp:t.p=p)(hq:RqOK p q)
  (hh:t.h.Perm (hdsA p ts)) (hnd:vs.Nodup) (hvic:∀n ∈ vs,∃k ∈ ts,k.num=n∧Xd1 p 0 k=true)
  (hfree:∀k ∈ ts,k.num ∉ vs → ∀a ∈ bksL m 0,∀b ∈ bksT k,apartB a b):VI p (ts ++ [⟨Xad ts,q,m,1,0⟩]) vs:=by
 have hnx:=Xe3 h.nm;have hrt:Xax p q m:=by have:=hg.rt; rwa [htp] at this
 have hrt2:Xax p (⟨Xad ts,q,m,1,0⟩:Tk).rq (⟨Xad ts,q,m,1,0⟩:Tk).hops:=hrt;have hhd:hdsT p ⟨Xad ts,q,m,1,0⟩=Xcv p q m (Xad ts):=Xim hrt2;have e:(ts.filter fun k => !([]:List Int).contains k.num)=ts:=by
  rw[List.filter_eq_self]; simp
 have hap:=h.ap;rw[e] at hap;have hmm:(bksL m 0).Pairwise apartB:=(List.pairwise_append.1 hg.ap).1;refine ⟨h.pl,Xil h.nm rfl hm,fun k hk=>?_,hnd,fun n hn=>?_,?_,fun n qn hqn tm=>?_⟩
 ·rcases List.mem_append.1 hk with e1 | e1
  ·exact h.tk k e1
  ·rw[List.mem_singleton.1 e1];refine ⟨hq,.inl ⟨rfl,hrt,rfl⟩,Xiw hq hrt.2.2.2.1 ⟨by show 0≤Xad ts; omega,hm⟩,?_⟩
   rw[hhd];have:=hg.hd;rw[htp] at this;exact Xin ⟨by show 0≤Xad ts; omega,hm⟩ this
 ·obtain ⟨k,hk,e1,e2⟩:=hvic n hn;exact ⟨k,by simp[hk],e1,e2⟩
 ·have hnv:vs.contains (Xad ts)=false:=by
   rw[Bool.eq_false_iff];intro hc;have hc:Xad ts ∈ vs:=by simpa using hc
   obtain ⟨k,hk,e1,_⟩:=hvic _ hc;have:=hnx.2 k hk;omega
  rw[List.filter_append,List.filter_cons,hnv];simp only[Bool.not_false,if_true,List.filter_nil];rw[Xcl,List.pairwise_append];refine ⟨?_,?_,fun a ha b hb=>?_⟩
  ·have:(bksA (ts.filter fun k => !vs.contains k.num)).Sublist (bksA ts):=by
    exact Xsd List.filter_sublist
   exact hap.sublist this
  ·rw[Xbi];show (bksL m (Xad ts) ++ []).Pairwise apartB;rw[List.append_nil];unfold bksL at hmm ⊢;rw[List.pairwise_map] at hmm ⊢;exact hmm
  ·rw[Xbi] at hb;have hb:b ∈ bksL m (Xad ts):=by
    rcases List.mem_append.1 hb with e1 | e1
    ·exact e1
    ·simp[bksA] at e1
   obtain ⟨x,hx,rfl⟩:=List.mem_map.1 hb;obtain ⟨k,hk,ha⟩:=Xnt ha;obtain ⟨hk1,hk2⟩:=List.mem_filter.1 hk;have:=hfree k hk1 (by simpa using hk2) ⟨x.ct,x.beg,x.fin,0⟩ (List.mem_map.2 ⟨x,hx,rfl⟩) a ha
   exact this.symm
 ·have hus:=hg.us n qn (by rw[htp]; exact hqn) tm
  rw[htp,Xdk,Xcp hh] at hus;rw[Xbl,Xdk,Xcw,hhd];show _+used (Xcv p q m (Xad ts) ++ []) _ _≤_;rw[List.append_nil,Xke (Xad ts) 0];omega
theorem Xib {p:Pln}{now:Int}{ts:List Tk}(hn:Xbh ts):(Xbk p now ts).Nodup:=by
 unfold Xbk;have h1:((ts.filter fun k=>decide (k.rq.prio<2) && Xd1 p now k).map (·.num)).Pairwise (· < ·):=by
  rw[List.pairwise_map];exact hn.2.sublist List.filter_sublist
 rw[List.nodup_iff_pairwise_ne];exact h1.imp fun {a b} h e=>by omega
theorem Xly {p:Pln}{ts:List Tk}{q:Rq}{o:AccO}(h:AccR p ts q 0 o)(hok:LgOK p ts)(hz:Zs p ts)(hq:RqOK p q)(hl:ts.length<64)(hm:Xad ts≤1152921504606846976):LgOK p o.ts∧Zs p o.ts:=by
 have hv:=hok.vi hz;have hn:=hok.2.2.1;cases h with
 | refused _ _=>exact ⟨hok,hz⟩
 | plain h1 h2 h3 =>
   rename_i t m
   obtain ⟨_,_,n,_,hg⟩:=h2.good;rw[Xb hn rfl] at h3;rw[Xb hn rfl];have hvi:VI p (ts ++ [⟨Xad ts,q,m,1,0⟩]) []:=hv.snoc hm hg h1.pl hq h1.h List.nodup_nil (by simp) fun k hk _ a ha b hb=>by
    have:=(List.pairwise_append.1 hg.ap).2.2 a ha b (h1.b.mem_iff.2 (List.mem_flatMap.2 ⟨k,hk,hb⟩));exact this
   obtain ⟨t',ht',f1,f2⟩:=h3;have hok2:=hvi.ok (by simp; omega) (by rw[←ht'.b.length_eq]; exact f1) (by rw[←ht'.h.length_eq]; exact f2)
   exact ⟨hok2,hvi.tk⟩
 | exch hp h1 h2 h3 h4 h5 h6 h7 =>
   rename_i t t2 pl m M D ts'
   obtain ⟨_,_,n,_,hg⟩:=h4.good;rw[Xb hn rfl] at h6;have hvs:∀n ∈ vicF p 0 m (ts ++ [⟨Xad ts,q,m,1,0⟩]),∃k ∈ ts,k.num=n∧k.rq.prio<2∧Xd1 p 0 k=true:=fun n hn=>by
    obtain ⟨k,hk,e1,e2,e3⟩:=Xgw hn;rcases List.mem_append.1 hk with e | e
    ·exact ⟨k,e,e1,e2,e3⟩
    ·rw[List.mem_singleton.1 e] at e2;have e2:q.prio<2:=e2;omega
   have hn2:Xbh (ts ++ [⟨Xad ts,q,m,1,0⟩]):=Xil hn rfl hm;have hvi:VI p (ts ++ [⟨Xad ts,q,m,1,0⟩]) (vicF p 0 m (ts ++ [⟨Xad ts,q,m,1,0⟩])):=by
    refine hv.snoc hm hg h3.pl hq h3.h ((Xib hn2).sublist List.filter_sublist) (fun n hn=>?_) fun k hk hnv a ha b hb=>?_
    ·obtain ⟨k,hk,e1,_,e3⟩:=hvs n hn;exact ⟨k,hk,e1,e3⟩
    ·by_cases hw:k.num ∈ Xbk p 0 ts
     ·
      have hrk:Xd1 p 0 k=true∧k.rq.prio<2:=by
       obtain ⟨k',hk',e1⟩:=List.mem_map.1 hw;obtain ⟨h8,h9⟩:=List.mem_filter.1 hk';have:=Xeu hn h8 hk e1;subst this;simp only[Bool.and_eq_true,decide_eq_true_eq] at h9;exact ⟨h9.2,h9.1⟩
      obtain ⟨z1,z2,z3,z4,_⟩:=Xfc (hz k hk) hrk.1;have hkw:k.num ∈ Xbk p 0 (ts ++ [⟨Xad ts,q,m,1,0⟩]):=by
       refine List.mem_map.2 ⟨k,List.mem_filter.2 ⟨by simp[hk],?_⟩,rfl⟩
       simp only[Bool.and_eq_true,decide_eq_true_eq];exact ⟨hrk.2,hrk.1⟩
      have hov:ovlF 0 m k=false:=by
       rw[Bool.eq_false_iff];intro hc;refine hnv (List.mem_filter.2 ⟨hkw,?_⟩);rw[Xcd hn2 (by simp[hk])]
       exact hc
      obtain ⟨x,hx,rfl⟩:=List.mem_map.1 ha;obtain ⟨y,hy,rfl⟩:=List.mem_map.1 hb;have hb1:=(hz k hk).bk ⟨y.ct,y.beg,y.fin,k.num⟩ (List.mem_map.2 ⟨y,hy,rfl⟩);have hrt:=hg.rt;rw[h3.pl] at hrt;have ha1:=Xiw (tk:=0) hq hrt.2.2.2.1 (by omega) ⟨x.ct,x.beg,x.fin,0⟩ (List.mem_map.2 ⟨x,hx,rfl⟩)
      obtain ⟨_,_,c1,_,_,f1,_⟩:=hb1;obtain ⟨_,_,c2,_,_,f2,_⟩:=ha1;simp only at f1 f2;have hno:¬ (y.ct=x.ct∧y.beg<x.fin∧x.beg<y.fin):=fun hc=>by
       have:ovlF 0 m k=true:=by
        unfold ovlF;rw[z3,List.drop_zero,List.any_eq_true];refine ⟨y,hy,?_⟩;rw[List.any_eq_true];refine ⟨x,hx,?_⟩;simp only[Bool.and_eq_true,decide_eq_true_eq];exact hc
       rw[hov] at this;cases this
      unfold apartB bkLt;simp only;omega
     ·
      refine (List.pairwise_append.1 hg.ap).2.2 a ha b ?_;show b ∈ Xgj (Xbk p 0 ts) 0 t2.b;refine List.mem_filter.2 ⟨h3.b.mem_iff.2 (List.mem_flatMap.2 ⟨k,hk,hb⟩),?_⟩;obtain ⟨y,hy,rfl⟩:=List.mem_map.1 hb;have:(Xbk p 0 ts).contains k.num=false:=by simpa using hw
      simp only[this,Bool.false_and,Bool.not_false]
   have hfin:=VI.steps h6 hvi;obtain ⟨t',t0,ht0,⟨f1,f2⟩,rfl⟩:=h7;have hlen:ts'.length=ts.length+1:=by
    have hgo:∀ {a b:List Tk} {vs M D:List Int},Xd0 p 0 a vs M D b→b.length=a.length:=by
     intro a b vs M D hmm;have one:∀ {a b:List Tk} {n:Int} {vs:List Int} {mv:Bool},Xn5 p 0 a n vs b mv→b.length=a.length:=by
      intro a b n vs mv h;obtain ⟨k,hf,nd,tm,hpos,t,hx,h⟩:=h;obtain ⟨hk,pre,post,rfl,hpre⟩:=Xau hf;subst hk;have s1:setT (pre ++ k :: post) (Xao 0 tm k)=pre ++ Xao 0 tm k :: post:=Xcq rfl hpre;rw[s1] at h;have s2:∀k':Tk,k'.num=k.num→setT (pre ++ Xao 0 tm k :: post) k' = pre ++ k' :: post:=fun k' e=>Xcq (by rw[e]; rfl) (fun x hx=>by rw[e]; exact hpre x hx)
      rcases h with ⟨_,m,_,rfl⟩ | ⟨_,_,_,rfl⟩
      ·rw[s2 (resF 0 m k) rfl]; simp
      ·rw[s2 (Xao 0 0 k) rfl]; simp
     induction hmm with
     | nil=>rfl
     | moved h1 _ ih=>rw[ih,one h1]
     | dropped h1 _ ih=>rw[ih,one h1]
    rw[hgo h6]; simp
   refine ⟨hfin.ok (by show ts'.length≤64; omega) (by rw[←ht0.b.length_eq]; exact f1) (by rw[←ht0.h.length_eq]; exact f2),hfin.tk⟩
theorem Xlo {p:Pln}{ts:List Tk}{k:Tk}(hok:LgOK p ts)(hz:Zs p ts)(hk:k ∈ ts)(hr:Xd1 p 0 k=true):LgOK p (setT ts (Xao 0 0 k))∧Zs p (setT ts (Xao 0 0 k)):=by
 obtain ⟨hk1,pre,post,rfl,hpre⟩:=Xau (Xcd hok.2.2.1 hk);have hzk:=hz k hk;obtain ⟨z1,z2,z3,z4,z5⟩:=Xfc hzk hr;have s1:setT (pre ++ k :: post) (Xao 0 0 k)=pre ++ Xao 0 0 k :: post:=Xcq rfl hpre;rw[s1];have hready:0≤k.rq.ready:=hzk.rq.2.2.2.2.2.1;have hstop:(Xao 0 0 k).hops = []:=by unfold Xao; rw[z3]; rfl
 have hzs:Zs p (pre ++ Xao 0 0 k :: post):=fun x hx=>by
  rcases List.mem_append.1 hx with e | e
  ·exact hz x (by simp[e])
  ·rcases List.mem_cons.1 e with e | e
   ·rw[e]; exact hzk.stop (Int.le_refl _) hready z3
   ·exact hz x (by simp[e])
 have hb:bksA (pre ++ Xao 0 0 k :: post)=bksA (pre ++ post):=by rw[Xcl,Xbi,Xea hstop,Xcl]; rfl
 have hh:hdsA p (pre ++ Xao 0 0 k :: post)=hdsA p (pre ++ post):=by rw[Xbl,Xcw,Xe6 hstop hready,Xbl]; rfl
 have sb:(bksA (pre ++ post)).Sublist (bksA (pre ++ k :: post)):=by
  rw[Xcl,Xcl,Xbi];exact List.Sublist.append_left (List.sublist_append_right _ _) _
 have sh:(hdsA p (pre ++ post)).Sublist (hdsA p (pre ++ k :: post)):=by
  rw[Xbl,Xbl,Xcw];exact List.Sublist.append_left (List.sublist_append_right _ _) _
 obtain ⟨o1,o2,o3,o4,⟨b1,b2,b3⟩,⟨h1,h2,h3⟩⟩:=hok;refine ⟨⟨o1,by simpa using o2,?_,fun x hx=>(hzs x hx).ok,?_,?_⟩,hzs⟩
 ·have al:Al (Xbv [k.num]) (pre ++ k :: post) (pre ++ Xao 0 0 k :: post):=Al.one (Xbv.refl _) pre post ⟨rfl,rfl,fun _=>by simp⟩
  exact Xrm al o3
 ·rw[hb];exact ⟨by have:=sb.length_le; omega,fun b hb=>b2 b (sb.subset hb),b3.sublist sb⟩
 ·rw[hh];refine ⟨by have:=sh.length_le; omega,fun b hb=>h2 b (sh.subset hb),fun n q hq tm=>?_⟩
  have hperm:(hdsA p (pre ++ k :: post)).Perm (hdsT p k ++ hdsA p (pre ++ post)):=by
   rw[Xbl,Xcw,Xbl];exact (List.perm_append_comm_assoc _ _ _)
  have:=h3 n q hq tm;rw[Xcp hperm,Xdk] at this;have:=Xdj (n:=n) (tm:=tm) (a:=hdsT p k) (fun x hx=>by have:=hzk.hd x hx; unfold Xca at this; omega)
  omega
end Go.Proofs.YtebkgbmijocdjaaGreat.Tp
