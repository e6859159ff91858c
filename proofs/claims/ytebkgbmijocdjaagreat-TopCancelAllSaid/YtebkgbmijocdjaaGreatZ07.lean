/- A part of the proof for the ledger. No condition beyond those that each theorem states. -/
import Derived.Test.YtebkgbmijocdjaaGreatZ05
import Derived.Test.YtebkgbmijocdjaaGreatZ06
set_option maxHeartbeats 32000000
set_option maxRecDepth 100000
set_option linter.unusedVariables false
set_option linter.unusedSimpArgs false
namespace Go.Proofs.YtebkgbmijocdjaaGreat.Tp
open Go Go.RowKit
def maxT:Int:=1099511627776
def evL (l:List Hld)(n:Int):List (Int × Int):=(l.filter fun h=>decide (h.node=n)).flatMap fun h => [(h.frm,h.size),(h.til, -h.size)]
def Xev (ts:List Int)(t:Int):List Int:=if t ∈ ts then ts else ts ++ [t]
def Xay (ev:List (Int × Int)):List Int:=ev.foldl (fun ts e=>Xev ts e.1) []
def chg (ev:List (Int × Int))(t:Int):Int:=((ev.filter fun e=>decide (e.1=t)).map (·.2)).sum
def lvGo (f:Int→Int):Int→List Int→List Lvl
 | _, [] => []
 | s,t :: l=>if f t=0 then lvGo f s l else ⟨t,s+f t⟩ :: lvGo f (s+f t) l
def Xae (l:List Hld)(n:Int):List Lvl:=lvGo (chg (evL l n)) 0 ((Xay (evL l n)).mergeSort)
def Xfi (f:List Lvl):Int:=f.foldl (fun n x=>max n x.val) 0
def endR (f t:Int):List Spn:=if 0≤f∧f<t then [⟨f,t⟩] else []
def Xci (q sz:Int):Int→List Lvl→List Spn
 | f, [] => endR f maxT
 | f,x :: l=>if x.at_<maxT then (if q - x.val<sz then endR f x.at_ ++ Xci q sz (-1) l else Xci q sz (if f<0 then x.at_ else f) l) else Xci q sz f l
def Xc (q sz:Int)(F:List Lvl):List Spn:=Xci q sz (if q<sz then -1 else 0) F
def vAt:Int→List Lvl→Int→Int
 | cur, [],_=>cur
 | cur,x :: l,t=>if t<x.at_ then cur else vAt x.val l t
theorem Xed {cur t:Int}:∀ {l:List Lvl},(∀x ∈ l,t<x.at_)→vAt cur l t=cur
 | [],_=>rfl
 | x :: l,h=>by rw[vAt,if_pos (h x (by simp))]
def RSt (q sz f cur lo:Int):Prop:=(0≤f∧f≤lo∧sz≤q - cur)∨(f<0∧q - cur<sz)
theorem Xcc {q sz:Int}:∀ {l:List Lvl}{f cur lo:Int},RSt q sz f cur lo→0≤lo→lo<maxT→(∀x ∈ l,lo<x.at_)→l.Pairwise (fun a b=>a.at_<b.at_) →
  (∀r ∈ Xci q sz f l,(0≤f∧r.frm=f∨lo<r.frm)∧r.frm<r.til∧lo<r.til∧r.til≤maxT ∧ ∀t,lo≤t→r.frm≤t→t<r.til→sz≤q - vAt cur l t)∧(Xci q sz f l).Pairwise (fun a b=>a.til<b.frm)
 | [],f,cur,lo,hs,h0,hm,ha,hp=>by
   simp only[Xci,endR]
   by_cases hc:0≤f∧f<maxT
   ·rw[if_pos hc];refine ⟨fun r hr=>?_,by simp⟩
    rw[List.mem_singleton.1 hr];refine ⟨.inl ⟨hc.1,rfl⟩,hc.2,hm,Int.le_refl _,fun t _ _ _=>?_⟩;rcases hs with h | h
    ·exact h.2.2
    ·omega
   ·rw[if_neg hc]; simp
 | x :: l,f,cur,lo,hs,h0,hm,ha,hp=>by
   obtain ⟨p1,p2⟩:=List.pairwise_cons.1 hp;have hx:=ha x (by simp)
   rw[Xci]
   by_cases hxm:x.at_<maxT
   ·rw[if_pos hxm]
    by_cases hb:q - x.val<sz
    ·rw[if_pos hb];obtain ⟨i1,i2⟩:=Xcc (q:=q) (sz:=sz) (l:=l) (f := -1) (cur:=x.val) (lo:=x.at_) (.inr ⟨by omega,hb⟩) (by omega) hxm p1 p2
     have hend:∀r ∈ endR f x.at_,0≤f∧r=⟨f,x.at_⟩∧f<x.at_:=by
      intro r hr;unfold endR at hr
      split at hr
      ·rename_i h; exact ⟨h.1,List.mem_singleton.1 hr,h.2⟩
      ·simp at hr
     refine ⟨fun r hr=>?_,?_⟩
     ·rcases List.mem_append.1 hr with h | h
      ·obtain ⟨e1,rfl,e3⟩:=hend r h;refine ⟨.inl ⟨e1,rfl⟩,e3,hx,by show x.at_≤maxT; omega,fun t ht1 ht2 ht3=>?_⟩
       have ht3':t<x.at_:=ht3;rw[vAt,if_pos ht3'];rcases hs with h | h
       ·exact h.2.2
       ·omega
      ·obtain ⟨e1,e2,e3,e4,e5⟩:=i1 r h;have:x.at_<r.frm:=by omega
       refine ⟨.inr (by omega),e2,by omega,e4,fun t ht1 ht2 ht3=>?_⟩
       rw[vAt,if_neg (by omega)]
       exact e5 t (by omega) ht2 ht3
     ·refine List.pairwise_append.2 ⟨?_,i2,fun a ha' b hb' => ?_⟩
      ·unfold endR; split <;> simp
      ·obtain ⟨e1,rfl,e3⟩:=hend a ha';have:=(i1 b hb').1;show x.at_<b.frm;omega
    ·rw[if_neg hb]
     by_cases hf:f<0
     ·rw[if_pos hf];obtain ⟨i1,i2⟩:=Xcc (q:=q) (sz:=sz) (l:=l) (f:=x.at_) (cur:=x.val) (lo:=x.at_) (.inl ⟨by omega,by omega,by omega⟩) (by omega) hxm p1 p2
      refine ⟨fun r hr=>?_,i2⟩;obtain ⟨e1,e2,e3,e4,e5⟩:=i1 r hr;refine ⟨.inr (by omega),e2,by omega,e4,fun t ht1 ht2 ht3=>?_⟩
      rw[vAt,if_neg (by omega)]
      exact e5 t (by omega) ht2 ht3
     ·rw[if_neg hf];have hs':0≤f∧f≤lo∧sz≤q - cur:=by
       rcases hs with h | h
       ·exact h
       ·omega
      obtain ⟨i1,i2⟩:=Xcc (q:=q) (sz:=sz) (l:=l) (f:=f) (cur:=x.val) (lo:=x.at_) (.inl ⟨by omega,by omega,by omega⟩) (by omega) hxm p1 p2
      refine ⟨fun r hr=>?_,i2⟩;obtain ⟨e1,e2,e3,e4,e5⟩:=i1 r hr;refine ⟨by omega,e2,by omega,e4,fun t ht1 ht2 ht3=>?_⟩
      rw[vAt]
      split
      ·exact hs'.2.2
      ·exact e5 t (by omega) ht2 ht3
   ·rw[if_neg hxm];obtain ⟨i1,i2⟩:=Xcc (q:=q) (sz:=sz) (l:=l) hs h0 hm (fun y hy=>ha y (by simp[hy])) p2
    refine ⟨fun r hr=>?_,i2⟩;obtain ⟨e1,e2,e3,e4,e5⟩:=i1 r hr;refine ⟨e1,e2,e3,e4,fun t ht1 ht2 ht3=>?_⟩;have:=e5 t ht1 ht2 ht3;rw[Xed (fun y hy=>by have:=p1 y hy; omega)] at this
    rw[vAt,if_pos (by omega)]
    exact this
theorem Xcb {q sz b e:Int}(hbe:b<e)(he:e≤maxT):∀ {l:List Lvl}{f cur lo:Int},RSt q sz f cur lo→0≤lo→lo<maxT→(∀x ∈ l,lo<x.at_)→l.Pairwise (fun a b=>a.at_<b.at_) →
  (0≤f∧f≤b∨lo≤b)→(∀t,lo≤t→b≤t→t<e→sz≤q - vAt cur l t) → ∃r ∈ Xci q sz f l,r.frm≤b∧e≤r.til
 | [],f,cur,lo,hs,h0,hm,ha,hp,hb,hv=>by
   simp only[Xci,endR];have h1:0≤f∧f≤b:=by
    rcases hs with h | h
    ·omega
    ·rcases hb with hb | hb
     ·exact hb
     ·have:=hv b hb (Int.le_refl _) hbe;simp only[vAt] at this;omega
   rw[if_pos ⟨h1.1,by omega⟩]
   exact ⟨_,List.mem_singleton.2 rfl,h1.2,he⟩
 | x :: l,f,cur,lo,hs,h0,hm,ha,hp,hb,hv=>by
   obtain ⟨p1,p2⟩:=List.pairwise_cons.1 hp;have hx:=ha x (by simp)
   have hvx:∀t,x.at_≤t→b≤t→t<e→sz≤q - vAt x.val l t:=by
    intro t h1 h2 h3;have:=hv t (by omega) h2 h3
    rwa [vAt,if_neg (by omega)] at this
   have hvl:x.at_≤b→sz≤q - vAt x.val l b:=fun h=>hvx b h (Int.le_refl _) hbe;rw[Xci]
   by_cases hxm:x.at_<maxT
   ·rw[if_pos hxm];have hatx:b≤x.at_→x.at_<e→sz≤q - x.val:=by
     intro h1 h2;have:=hvx x.at_ (Int.le_refl _) h1 h2
     rwa [Xed p1] at this
    by_cases hbad:q - x.val<sz
    ·rw[if_pos hbad]
     by_cases hee:e≤x.at_
     ·have h1:0≤f∧f≤b:=by
       rcases hs with h | h
       ·omega
       ·rcases hb with hb | hb
        ·exact hb
        ·have:=hv b hb (Int.le_refl _) hbe;rw[vAt,if_pos (by omega)] at this
         omega
      refine ⟨⟨f,x.at_⟩,List.mem_append.2 (.inl ?_),h1.2,hee⟩;unfold endR;rw[if_pos ⟨h1.1,by omega⟩]
      simp
     ·have hxb:x.at_≤b:=by
       apply Classical.byContradiction;intro hc;have:=hatx (by omega) (by omega)
       omega
      obtain ⟨r,hr,h1,h2⟩:=Xcb hbe he (q:=q) (sz:=sz) (l:=l) (f := -1) (cur:=x.val) (lo:=x.at_) (.inr ⟨by omega,hbad⟩) (by omega) hxm p1 p2 (.inr hxb) hvx
      exact ⟨r,List.mem_append.2 (.inr hr),h1,h2⟩
    ·rw[if_neg hbad]
     by_cases hf:f<0
     ·rw[if_pos hf];have hxb:x.at_≤b:=by
       apply Classical.byContradiction;intro hc;have h1:lo≤b:=by omega
       have:=hv b h1 (Int.le_refl _) hbe;rw[vAt,if_pos (by omega)] at this
       rcases hs with h | h <;> omega
      exact Xcb hbe he (q:=q) (sz:=sz) (l:=l) (f:=x.at_) (cur:=x.val) (lo:=x.at_) (.inl ⟨by omega,by omega,by omega⟩) (by omega) hxm p1 p2 (.inr hxb) hvx
     ·rw[if_neg hf];have hs':0≤f∧f≤lo∧sz≤q - cur:=by
       rcases hs with h | h
       ·exact h
       ·omega
      exact Xcb hbe he (q:=q) (sz:=sz) (l:=l) (f:=f) (cur:=x.val) (lo:=x.at_) (.inl ⟨by omega,by omega,by omega⟩) (by omega) hxm p1 p2 (.inl ⟨by omega,by omega⟩) hvx
   ·rw[if_neg hxm];refine Xcb hbe he (q:=q) (sz:=sz) (l:=l) hs h0 hm (fun y hy=>ha y (by simp[hy])) p2 hb (fun t h1 h2 h3=>?_)
    have:=hv t h1 h2 h3;rw[vAt,if_pos (by omega)] at this
    rwa [Xed (fun y hy=>by have:=p1 y hy; omega)]
theorem Xfe {ts:List Int}{t x:Int}:x ∈ Xev ts t↔x ∈ ts∨x=t:=by
 unfold Xev
 split
 ·rename_i h
  constructor
  ·exact .inl
  ·rintro (h1 | rfl)
   ·exact h1
   ·exact h
 ·simp
theorem Xme {ts:List Int}{t:Int}(h:ts.Nodup):(Xev ts t).Nodup:=by
 unfold Xev
 split
 ·exact h
 ·rename_i hn
  rw[List.nodup_append];refine ⟨h,by simp,fun a ha b hb e=>?_⟩
  rw[List.mem_singleton] at hb;exact hn (hb ▸ e ▸ ha)
theorem Xg6:∀(ev:List (Int × Int))(ts:List Int),ts.Nodup→(ev.foldl (fun ts e=>Xev ts e.1) ts).Nodup ∧ ∀x,x ∈ ev.foldl (fun ts e=>Xev ts e.1) ts↔x ∈ ts ∨ ∃e ∈ ev,e.1=x
 | [],ts,h=>⟨h,fun x=>by simp⟩
 | e :: ev,ts,h=>by
   obtain ⟨h1,h2⟩:=Xg6 ev (Xev ts e.1) (Xme h);refine ⟨h1,fun x=>?_⟩;rw[List.foldl_cons,h2,Xfe];constructor
   ·rintro ((h3 | h3) | ⟨e',he,h3⟩)
    ·exact .inl h3
    ·exact .inr ⟨e,by simp,h3.symm⟩
    ·exact .inr ⟨e',by simp[he],h3⟩
   ·rintro (h3 | ⟨e',he,h3⟩)
    ·exact .inl (.inl h3)
    ·rcases List.mem_cons.1 he with rfl | he
     ·exact .inl (.inr h3.symm)
     ·exact .inr ⟨e',he,h3⟩
theorem Xkf (ev:List (Int × Int)):(Xay ev).Nodup:=(Xg6 ev [] (by simp)).1
theorem Xg0 {ev:List (Int × Int)}{x:Int}:x ∈ Xay ev ↔ ∃e ∈ ev,e.1=x:=by
 unfold Xay;rw[(Xg6 ev [] (by simp)).2]; simp
def Xgi (ev:List (Int × Int)):List Int:=(Xay ev).mergeSort
theorem Xj4 (ev:List (Int × Int)):(Xgi ev).Pairwise (· < ·):=by
 have h1:(Xgi ev).Pairwise (fun a b=>decide (a≤b)=true):=List.pairwise_mergeSort (by intro a b c h1 h2; simp at h1 h2 ⊢; omega) (by intro a b; simp; omega) (Xay ev)
 have h2:(Xgi ev).Nodup:=(List.mergeSort_perm (Xay ev) _).nodup_iff.2 (Xkf ev);rw[List.nodup_iff_pairwise_ne] at h2;refine (h1.and h2).imp ?_;intro a b h;have:=of_decide_eq_true h.1;have:=h.2;omega
theorem Xlc {ev:List (Int × Int)}{x:Int}:x ∈ Xgi ev ↔ ∃e ∈ ev,e.1=x:=by
 unfold Xgi;rw[(List.mergeSort_perm (Xay ev) _).mem_iff,Xg0]
def sumTo (ev:List (Int × Int))(t:Int):Int:=((ev.filter fun e=>decide (e.1≤t)).map (·.2)).sum
theorem Xjl {f:Int→Int}:∀ {s:Int}{ts:List Int},∀x ∈ lvGo f s ts,x.at_ ∈ ts∧f x.at_ ≠ 0
 | s, [],x,h=>by simp[lvGo] at h
 | s,t :: ts,x,h=>by
   rw[lvGo] at h
   split at h
   ·have:=Xjl x h; exact ⟨by simp[this.1],this.2⟩
   ·rename_i hn
    rcases List.mem_cons.1 h with rfl | h
    ·exact ⟨by simp,hn⟩
    ·have:=Xjl x h; exact ⟨by simp[this.1],this.2⟩
theorem Xjk {f:Int→Int}:∀ {s:Int}{ts:List Int},ts.Pairwise (· < ·)→(lvGo f s ts).Pairwise fun a b=>a.at_<b.at_
 | s, [],h=>by simp[lvGo]
 | s,t :: ts,h=>by
   obtain ⟨h1,h2⟩:=List.pairwise_cons.1 h;rw[lvGo]
   split
   ·exact Xjk h2
   ·refine List.pairwise_cons.2 ⟨fun x hx=>?_,Xjk h2⟩;exact h1 _ (Xjl x hx).1
theorem Xjj {f:Int→Int}{t:Int}:∀ {s:Int}{ts:List Int},ts.Pairwise (· < ·)→vAt s (lvGo f s ts) t=s+((ts.filter fun u=>decide (u≤t)).map f).sum
 | s, [],h=>by simp[lvGo,vAt]
 | s,u :: ts,h=>by
   obtain ⟨h1,h2⟩:=List.pairwise_cons.1 h;rw[lvGo]
   by_cases h0:f u=0
   ·rw[if_pos h0,Xjj h2,List.filter_cons]
    split
    ·rw[List.map_cons,List.sum_cons,h0]; omega
    ·rfl
   ·rw[if_neg h0,vAt,List.filter_cons]
    by_cases hut:t<u
    ·rw[if_pos hut,if_neg (by simpa using hut)]
     have:ts.filter (fun u=>decide (u≤t)) = []:=by
      rw[List.filter_eq_nil_iff];intro v hv;have:=h1 v hv;simp; omega
     rw[this]; simp
    ·rw[if_neg hut,Xjj h2,if_pos (by simp; omega),List.map_cons,List.sum_cons]
     show s+f u+_=_;omega
theorem Xns (e:Int × Int)(ev:List (Int × Int))(u:Int):chg (e :: ev) u=(if e.1=u then e.2 else 0)+chg ev u:=by
 unfold chg;rw[List.filter_cons]
 by_cases h:e.1=u <;> simp[h]
theorem Xpe:∀(l:List Int)(f g:Int→Int),(l.map fun u=>f u+g u).sum=(l.map f).sum+(l.map g).sum
 | [],f,g=>by simp
 | u :: l,f,g=>by
   have:=Xpe l f g;simp only[List.map_cons,List.sum_cons];omega
theorem Xso:∀(l:List Int)(a v:Int),l.Nodup→(l.map fun u=>if a=u then v else 0).sum=if a ∈ l then v else 0
 | [],a,v,_=>by simp
 | u :: l,a,v,h=>by
   obtain ⟨h1,h2⟩:=List.nodup_cons.1 h;have:=Xso l a v h2;simp only[List.map_cons,List.sum_cons,List.mem_cons]
   by_cases e:a=u
   ·subst e;rw[this,if_neg h1]; simp
   ·rw[if_neg e,this]; simp[e]
theorem Xpd (t:Int):∀(ev:List (Int × Int))(ts:List Int),ts.Nodup→(∀e ∈ ev,e.1 ∈ ts)→((ts.filter fun u=>decide (u≤t)).map (chg ev)).sum=sumTo ev t
 | [],ts,_,_=>by
   have:∀l:List Int,(l.map (chg [])).sum=0:=by
    intro l
    induction l with
    | nil=>rfl
    | cons a l ih=>rw[List.map_cons,List.sum_cons,ih]; simp[chg]
   rw[this]; simp[sumTo]
 | e :: ev,ts,h,hm=>by
   have ih:=Xpd t ev ts h (fun x hx=>hm x (by simp[hx]))
   have h1:(chg (e :: ev))=fun u=>(if e.1=u then e.2 else 0)+chg ev u:=by
    funext u; exact Xns e ev u
   rw[h1,Xpe,ih,Xso _ _ _ (h.filter _)];unfold sumTo;rw[List.filter_cons];have:=hm e (by simp)
   by_cases hle:e.1≤t
   ·rw[if_pos (by simp[this,hle]),if_pos (by simpa using hle)]; simp
   ·rw[if_neg (by simp[hle]),if_neg (by simpa using hle)]; omega
theorem Xki (n t:Int):∀(l:List Hld),(∀h ∈ l,h.frm<h.til)→sumTo (evL l n) t=used l n t
 | [],_=>by simp[sumTo,evL,used]
 | h :: l,hv=>by
   have ih:=Xki n t l (fun x hx=>hv x (by simp[hx]))
   have hh:=hv h (by simp)
   have h1:evL (h :: l) n=(if h.node=n then [(h.frm,h.size),(h.til, -h.size)] else []) ++ evL l n:=by
    unfold evL;rw[List.filter_cons]
    by_cases e:h.node=n <;> simp[e]
   have h2:used (h :: l) n t=(if h.node=n∧h.frm≤t∧t<h.til then h.size else 0)+used l n t:=by
    unfold used;rw[List.filter_cons]
    by_cases e:h.node=n∧h.frm≤t∧t<h.til
    ·rw[if_pos (by simpa using e),if_pos e]; simp
    ·rw[if_neg (by simpa using e),if_neg e]; omega
   have h3:∀a b:List (Int × Int),sumTo (a ++ b) t=sumTo a t+sumTo b t:=by
    intro a b;unfold sumTo;rw[List.filter_append,List.map_append,List.sum_append]
   rw[h1,h3,ih,h2]
   congr 1
   by_cases e:h.node=n
   ·rw[if_pos e];unfold sumTo
    by_cases a:h.frm≤t
    ·by_cases b:h.til≤t
     ·rw[if_neg (by omega)]; simp[a,b]; omega
     ·rw[if_pos ⟨e,a,by omega⟩]; simp[a,b]
    ·rw[if_neg (by omega)]; simp[a,show ¬ h.til≤t by omega]
   ·rw[if_neg e,if_neg (by omega)]; simp[sumTo]
theorem Xei (l:List Hld)(n:Int):Xae l n=lvGo (chg (evL l n)) 0 (Xgi (evL l n)):=rfl
theorem Xeh {l:List Hld}(hv:∀h ∈ l,h.frm<h.til)(n t:Int):vAt 0 (Xae l n) t=used l n t:=by
 rw[Xei,Xjj (Xj4 _),Xpd t _ _ ((Xj4 (evL l n)).imp (fun {a b} h=>by show a ≠ b; omega)) (fun e he=>Xlc.2 ⟨e,he,rfl⟩),Xki n t l hv]
 omega
theorem Xg2 (l:List Hld)(n:Int):(Xae l n).Pairwise fun a b=>a.at_<b.at_:=Xjk (Xj4 _)
theorem Xjh {l:List Hld}{n:Int}{e:Int × Int}:e ∈ evL l n ↔ ∃h ∈ l,h.node=n∧(e=(h.frm,h.size)∨e=(h.til, -h.size)):=by
 unfold evL;rw[List.mem_flatMap];constructor
 ·rintro ⟨h,h1,h2⟩;obtain ⟨h3,h4⟩:=List.mem_filter.1 h1;exact ⟨h,h3,by simpa using h4,by simpa using h2⟩
 ·rintro ⟨h,h1,h2,h3⟩;exact ⟨h,List.mem_filter.2 ⟨h1,by simpa using h2⟩,by simpa using h3⟩
theorem Xq7 {l:List Hld}{n:Int}{x:Lvl}(hx:x ∈ Xae l n):∃h ∈ l,h.node=n∧(x.at_=h.frm∨x.at_=h.til):=by
 obtain ⟨e,he,h1⟩:=Xlc.1 (Xjl x hx).1;obtain ⟨h,h2,h3,h4⟩:=Xjh.1 he;refine ⟨h,h2,h3,?_⟩;rcases h4 with rfl | rfl
 ·exact .inl h1.symm
 ·exact .inr h1.symm
theorem Xne:∀(F:List Lvl)(m q:Int),F.foldl (fun n x=>max n x.val) m≤q↔m≤q ∧ ∀x ∈ F,x.val≤q
 | [],m,q=>by simp
 | x :: F,m,q=>by
   rw[List.foldl_cons,Xne F];constructor
   ·rintro ⟨h1,h2⟩;refine ⟨by omega,fun y hy=>?_⟩
    rcases List.mem_cons.1 hy with rfl | h
    ·omega
    ·exact h2 y h
   ·rintro ⟨h1,h2⟩;have:=h2 x (by simp)
    exact ⟨by omega,fun y hy=>h2 y (by simp[hy])⟩
theorem Xp7:∀(F:List Lvl)(c t:Int),vAt c F t=c ∨ ∃x ∈ F,vAt c F t=x.val
 | [],c,t => .inl rfl
 | x :: F,c,t=>by
   rw[vAt]
   split
   ·exact .inl rfl
   ·rcases Xp7 F x.val t with h | ⟨y,hy,h⟩
    ·exact .inr ⟨x,by simp,h⟩
    ·exact .inr ⟨y,by simp[hy],h⟩
theorem Xiy:∀(F:List Lvl)(c:Int),(F.Pairwise fun a b=>a.at_<b.at_) → ∀x ∈ F,vAt c F x.at_=x.val
 | [],c,_,x,h=>by simp at h
 | y :: F,c,hp,x,h=>by
   obtain ⟨p1,p2⟩:=List.pairwise_cons.1 hp;rw[vAt];rcases List.mem_cons.1 h with rfl | h
   ·rw[if_neg (by omega),Xed p1]
   ·rw[if_neg (by have:=p1 x h; omega)]
    exact Xiy F y.val p2 x h
theorem Xq3 {l:List Hld}(hv:∀h ∈ l,h.frm<h.til){n q:Int}(hq:0≤q):Xfi (Xae l n)≤q ↔ ∀t,used l n t≤q:=by
 unfold Xfi;rw[Xne];constructor
 ·rintro ⟨_,h⟩ t;rw[←Xeh hv];rcases Xp7 (Xae l n) 0 t with h1 | ⟨x,hx,h1⟩
  ·rw[h1]; exact hq
  ·rw[h1]; exact h x hx
 ·intro h;refine ⟨hq,fun x hx=>?_⟩;have:=h x.at_
  rwa [←Xeh hv,Xiy _ _ (Xg2 l n) x hx] at this
def Xi0 (l:List Hld):Prop:=∀h ∈ l,0≤h.frm∧h.frm<h.til∧h.til≤maxT∧0≤h.size
theorem Xog {l:List Hld}(hl:Xi0 l){n:Int}{x:Lvl}(hx:x ∈ Xae l n):0≤x.at_:=by
 obtain ⟨h,h1,_,h3⟩:=Xq7 hx;have:=hl h h1;omega
theorem Xh {l:List Hld}(hl:Xi0 l)(n q sz:Int):∃(f cur:Int)(F:List Lvl),Xc q sz (Xae l n)=Xci q sz f F∧RSt q sz f cur 0∧(∀x ∈ F,0<x.at_)∧F.Pairwise (fun a b=>a.at_<b.at_) ∧ ∀t,0≤t→vAt cur F t=used l n t:=by
 have hv:∀h ∈ l,h.frm<h.til:=fun h hh=>(hl h hh).2.1;have hval:=fun t=>Xeh hv n t;have hinc:=Xg2 l n;have hpos:∀x ∈ Xae l n,0≤x.at_:=fun x hx=>Xog hl hx;generalize Xae l n=F at hval hinc hpos;have hst:RSt q sz (if q<sz then -1 else 0) 0 0:=by
  unfold RSt
  split <;> omega
 have base:(∀x ∈ F,0<x.at_) → ∃(f cur:Int) (F':List Lvl),Xc q sz F=Xci q sz f F' ∧ RSt q sz f cur 0∧(∀x ∈ F',0<x.at_)∧F'.Pairwise (fun a b=>a.at_<b.at_) ∧ ∀t,0≤t→vAt cur F' t=used l n t:=fun h=>⟨_,0,F,rfl,hst,h,hinc,fun t _=>hval t⟩;cases F with
 | nil=>exact base (by simp)
 | cons x F =>
   obtain ⟨p1,p2⟩:=List.pairwise_cons.1 hinc
   by_cases h0:x.at_=0
   ·refine ⟨if q - x.val<sz then -1 else 0,x.val,F,?_,?_,fun y hy=>by have:=p1 y hy; omega,p2,fun t ht=>?_⟩
    ·unfold Xc;rw[Xci,if_pos (by rw[h0]; unfold maxT; omega),h0]
     by_cases hb:q - x.val<sz
     ·rw[if_pos hb,if_pos hb];have:endR (if q<sz then -1 else 0) 0 = []:=by
       unfold endR;rw[if_neg (by split <;> omega)]
      rw[this]; rfl
     ·rw[if_neg hb,if_neg hb]
      congr 1
      split <;> omega
    ·unfold RSt; split <;> omega
    ·have:=hval t
     rwa [vAt,if_neg (by omega)] at this
   ·refine base (fun y hy=>?_);have:=hpos x (by simp)
    rcases List.mem_cons.1 hy with rfl | h
    ·omega
    ·have:=p1 y h; omega
theorem Xcr {l:List Hld}(hl:Xi0 l)(n q sz:Int) :
  (∀r ∈ Xc q sz (Xae l n),0≤r.frm∧r.frm<r.til∧r.til≤maxT ∧ ∀t,r.frm≤t→t<r.til→used l n t+sz≤q)∧(Xc q sz (Xae l n)).Pairwise (fun a b=>a.til<b.frm):=by
 obtain ⟨f,cur,F,e1,e2,e3,e4,e5⟩:=Xh hl n q sz;rw[e1];obtain ⟨h1,h2⟩:=Xcc e2 (Int.le_refl 0) (by unfold maxT; omega) e3 e4
 refine ⟨fun r hr=>?_,h2⟩;obtain ⟨a1,a2,a3,a4,a5⟩:=h1 r hr;have hp:0≤r.frm:=by omega
 refine ⟨hp,a2,a4,fun t ht1 ht2=>?_⟩;have:=a5 t (by omega) ht1 ht2
 rw[e5 t (by omega)] at this
 omega
theorem Xgz {l:List Hld}(hl:Xi0 l)(n q sz:Int){b e:Int}(hb:0≤b)(hbe:b<e)(he:e≤maxT)(hu:∀t,b≤t→t<e→used l n t+sz≤q):∃r ∈ Xc q sz (Xae l n),r.frm≤b∧e≤r.til:=by
 obtain ⟨f,cur,F,e1,e2,e3,e4,e5⟩:=Xh hl n q sz;rw[e1];refine Xcb hbe he e2 (Int.le_refl 0) (by unfold maxT; omega) e3 e4 (.inr hb) (fun t h1 h2 h3=>?_)
 rw[e5 t h1];have:=hu t h2 h3;omega
theorem Xb1 (h:Hld)(l:List Hld)(n t:Int):used (h :: l) n t=(if h.node=n∧h.frm≤t∧t<h.til then h.size else 0)+used l n t:=by
 unfold used;rw[List.filter_cons]
 by_cases e:h.node=n∧h.frm≤t∧t<h.til
 ·rw[if_pos (by simpa using e),if_pos e]; simp
 ·rw[if_neg (by simpa using e),if_neg e]; omega
theorem Xp8 {n t:Int}:∀ {l:List Hld},Xi0 l→(∀h ∈ l,h.node=n→h.til ≠ t+1)→used l n t≤used l n (t+1)
 | [],_,_=>Int.le_refl _
 | h :: l,hl,hn=>by
   have ih:=Xp8 (n:=n) (t:=t) (l:=l) (fun x hx=>hl x (by simp[hx])) (fun x hx=>hn x (by simp[hx]))
   have h1:=hl h (by simp)
   have h2:=hn h (by simp)
   rw[Xb1,Xb1]
   by_cases a:h.node=n∧h.frm≤t∧t<h.til
   ·have:=h2 a.1;rw[if_pos a,if_pos ⟨a.1,by omega,by omega⟩]
    omega
   ·rw[if_neg a]
    split <;> omega
theorem Xh0 {l:List Hld}(hl:Xi0 l)(n q sz:Int):(Xc q sz (Xae l n)).length≤1+(l.filter fun h=>decide (h.node=n)).length:=by
 obtain ⟨h1,h2⟩:=Xcr hl n q sz;have hw:=fun b e h0 hbe he hu=>Xgz hl n q sz (b:=b) (e:=e) h0 hbe he hu;generalize Xc q sz (Xae l n)=R at h1 h2 hw;have hnd:(R.map Spn.frm).Nodup:=by
  rw[List.nodup_iff_pairwise_ne,List.pairwise_map];refine h2.imp_of_mem (fun {a b} ha hb hab=>?_);have:=h1 a ha;omega
 have hsub:∀x ∈ R.map Spn.frm,x ∈ (0:Int) :: (l.filter fun h=>decide (h.node=n)).map Hld.til:=by
  intro x hx;obtain ⟨r,hr,rfl⟩:=List.mem_map.1 hx;obtain ⟨a1,a2,a3,a4⟩:=h1 r hr
  by_cases h0:r.frm=0
  ·simp[h0]
  ·refine List.mem_cons_of_mem _ ?_;apply Classical.byContradiction;intro hc;have hu:used l n (r.frm - 1)≤used l n (r.frm - 1+1):=Xp8 hl (fun h hh hn he=>hc (List.mem_map.2 ⟨h,List.mem_filter.2 ⟨hh,by simpa using hn⟩,by omega⟩))
   rw[show r.frm - 1+1=r.frm by omega] at hu
   have hb:=a4 r.frm (Int.le_refl _) a2;obtain ⟨s,hs,hs1,hs2⟩:=hw (r.frm - 1) r.til (by omega) (by omega) a3 (fun t ht1 ht2=>by
    by_cases e:t=r.frm - 1
    ·rw[e]; omega
    ·exact a4 t (by omega) ht2)
   have b2:=h1 s hs;have:r.til<s.frm∨s.til<r.frm∨r=s:=by
    clear hw hnd hc hu hx
    induction R with
    | nil=>simp at hr
    | cons p R ih =>
      obtain ⟨p1,p2⟩:=List.pairwise_cons.1 h2;rcases List.mem_cons.1 hr with e1 | e1
      ·rcases List.mem_cons.1 hs with e2 | e2
       ·exact .inr (.inr (e1.trans e2.symm))
       ·left; rw[e1]; exact p1 s e2
      ·rcases List.mem_cons.1 hs with e2 | e2
       ·right; left; rw[e2]; exact p1 r e1
       ·exact ih (fun r hr=>h1 r (by simp[hr])) p2 e1 e2
   rcases this with h | h | h
   ·omega
   ·omega
   ·rw[←h] at hs1; omega
 have:=Xgm hnd hsub;simp only[List.length_map,List.length_cons] at this;omega
def Xho (fin:Int):Int→List Spn→List Spn
 | a, [] => gapL a fin
 | a,x :: l=>gapL a x.frm ++ Xho fin (max a x.til) l
theorem Xno (fin:Int):∀(a:Int)(l:List Spn),(Xbo a l).1 ++ gapL (Xbo a l).2 fin=Xho fin a l
 | a, [] => by simp[Xbo,Xho]
 | a,x :: l=>by simp[Xbo,Xho, ←Xno fin (max a x.til) l]
theorem Xfk {a t:Int}{s:Spn}:s ∈ gapL a t↔s=⟨a,t⟩∧a<t:=by
 unfold gapL
 split
 ·rename_i h; simp[h]
 ·rename_i h; simp[h]
theorem Xcx {fin:Int}:∀ {L:List Spn}{a:Int},(∀x ∈ L,a≤x.frm∧x.frm<x.til)→L.Pairwise (fun x y=>x.til≤y.frm)→(∀s ∈ Xho fin a L,a≤s.frm∧s.frm<s.til∧((∀x ∈ L,x.til≤fin)→s.til≤fin) ∧ ∀x ∈ L,x.til≤s.frm∨s.til≤x.frm)∧(Xho fin a L).Pairwise fun s t=>s.til≤t.frm
 | [],a,h,hp=>by
   simp only[Xho];refine ⟨fun s hs=>?_,?_⟩
   ·obtain ⟨rfl,h1⟩:=Xfk.1 hs;exact ⟨Int.le_refl _,h1,fun _=>Int.le_refl _,by simp⟩
   ·unfold gapL; split <;> simp
 | x :: L,a,h,hp=>by
   obtain ⟨p1,p2⟩:=List.pairwise_cons.1 hp;have hx:=h x (by simp)
   obtain ⟨i1,i2⟩:=Xcx (fin:=fin) (L:=L) (a:=max a x.til) (fun y hy=>⟨by have:=p1 y hy; omega,(h y (by simp[hy])).2⟩) p2
   rw[Xho];refine ⟨fun s hs=>?_,?_⟩
   ·rcases List.mem_append.1 hs with h1 | h1
    ·obtain ⟨rfl,h2⟩:=Xfk.1 h1;refine ⟨Int.le_refl _,h2,fun hh=>by have:=hh x (by simp); show x.frm≤fin; omega,fun y hy => .inr ?_⟩
     rcases List.mem_cons.1 hy with rfl | h3
     ·exact Int.le_refl _
     ·have:=p1 y h3; show x.frm≤y.frm; omega
    ·obtain ⟨a1,a2,a3,a4⟩:=i1 s h1;refine ⟨by omega,a2,fun hh=>a3 (fun y hy=>hh y (by simp[hy])),fun y hy=>?_⟩
     rcases List.mem_cons.1 hy with rfl | h3
     ·left; omega
     ·exact a4 y h3
   ·refine List.pairwise_append.2 ⟨by unfold gapL; split <;> simp,i2,fun s hs t ht=>?_⟩
    obtain ⟨rfl,h2⟩:=Xfk.1 hs;have:=(i1 t ht).1;show x.frm≤t.frm;omega
theorem Xhn {fin b e:Int}(hbe:b<e)(he:e≤fin):∀ {L:List Spn}{a:Int},(∀x ∈ L,a≤x.frm∧x.frm<x.til)→L.Pairwise (fun x y=>x.til≤y.frm)→a≤b→(∀x ∈ L,x.til≤b∨e≤x.frm) → ∃s ∈ Xho fin a L,s.frm≤b∧e≤s.til
 | [],a,h,hp,hb,hx=>⟨⟨a,fin⟩,Xfk.2 ⟨rfl,by omega⟩,hb,he⟩
 | x :: L,a,h,hp,hb,hx=>by
   obtain ⟨p1,p2⟩:=List.pairwise_cons.1 hp;have h0:=h x (by simp)
   rw[Xho];rcases hx x (by simp) with h1 | h1
   ·obtain ⟨s,hs,k⟩:=Xhn hbe he (L:=L) (a:=max a x.til) (fun y hy=>⟨by have:=p1 y hy; omega,(h y (by simp[hy])).2⟩) p2 (by omega) (fun y hy=>hx y (by simp[hy]))
    exact ⟨s,List.mem_append.2 (.inr hs),k⟩
   ·exact ⟨⟨a,x.frm⟩,List.mem_append.2 (.inl (Xfk.2 ⟨rfl,by omega⟩)),hb,h1⟩
def Xra (t:Tbl)(i:Nat)(b e:Int):Prop:=∃c,t.p.c[i]? = some c∧c.beg≤b∧e≤c.fin ∧ ∀x ∈ t.b,x.ct=i→x.fin≤b∨e≤x.beg
def Xr9 (t:Tbl)(sz n b e:Int):Prop:=0≤b∧e≤maxT ∧ ∃q,t.p.q[n.toNat]? = some q ∧ ∀tm,b≤tm→tm<e→used t.h n tm+sz≤q
theorem Xha {l:List Bkg}{c:Int}{s:Spn}:s ∈ Xb3 l c ↔ ∃b ∈ l,b.ct=c∧s=⟨b.beg,b.fin⟩:=by
 unfold Xb3;rw[List.mem_map];constructor
 ·rintro ⟨b,h,rfl⟩;obtain ⟨h1,h2⟩:=List.mem_filter.1 h;exact ⟨b,h1,by simpa using h2,rfl⟩
 ·rintro ⟨b,h1,h2,rfl⟩;exact ⟨b,List.mem_filter.2 ⟨h1,by simpa using h2⟩,rfl⟩
theorem Xe9 {p:Pln}{l:List Bkg}(h:Xk9 p l){i:Nat}{c:Ct}(hc:p.c[i]? = some c):(∀x ∈ Xb3 l i,c.beg≤x.frm∧x.frm<x.til)∧(∀x ∈ Xb3 l i,x.til≤c.fin)∧(Xb3 l i).Pairwise fun x y=>x.til≤y.frm:=by
 obtain ⟨_,h2,h3⟩:=h;have hb:∀x ∈ Xb3 l i,c.beg≤x.frm∧x.frm<x.til∧x.til≤c.fin:=by
  intro x hx;obtain ⟨b,hb1,hb2,rfl⟩:=Xha.1 hx;obtain ⟨_,_,c',h4,h5⟩:=h2 b hb1;rw[hb2] at h4;simp only[Int.toNat_natCast] at h4;rw[hc] at h4;cases h4;exact h5
 refine ⟨fun x hx=>⟨(hb x hx).1,(hb x hx).2.1⟩,fun x hx=>(hb x hx).2.2,?_⟩;unfold Xb3;rw[List.pairwise_map];refine (h3.filter _).imp_of_mem (fun {a b} ha hb hab=>?_);have h1:a.ct=i:=by simpa using (List.mem_filter.1 ha).2
 have h2:b.ct=i:=by simpa using (List.mem_filter.1 hb).2
 unfold bkLt at hab;show a.fin≤b.beg;omega
def Xb6 (t:Tbl):List (List Spn):=t.p.c.zipIdx.map fun ci=>Xg5 ci.1 (Xb3 t.b ci.2) ci.1.beg
def Xak (t:Tbl)(sz:Int):List (List Spn):=t.p.q.zipIdx.map fun qn=>Xc qn.1 sz (Xae t.h qn.2)
def grf (t:Tbl)(q:Rq):Grf:=⟨t.p.c,Xb6 t,Xak t q.size,t.p.c.map fun c=>dur c q.size,q.src,q.dst,q.ready,q.dead,q.cust⟩
theorem Xe7 {t:Tbl}{i:Nat}{c:Ct}(h:t.p.c[i]? = some c):(Xb6 t).getD i [] = Xho c.fin c.beg (Xb3 t.b i):=by
 unfold Xb6;rw[List.getD_eq_getElem?_getD,List.getElem?_map,List.getElem?_zipIdx,h];simp only[Option.map_some,Option.getD_some,Nat.zero_add];unfold Xg5;rw[show max c.beg c.beg=c.beg by omega]
 exact Xno _ _ _
theorem Xms {t:Tbl}{i:Nat}(h:t.p.c[i]? = none):(Xb6 t).getD i [] = []:=by
 unfold Xb6;rw[List.getD_eq_getElem?_getD,List.getElem?_map,List.getElem?_zipIdx,h]
 rfl
theorem Xdg {t:Tbl}{n:Nat}{q sz:Int}(h:t.p.q[n]? = some q):(Xak t sz).getD n [] = Xc q sz (Xae t.h n):=by
 unfold Xak;rw[List.getD_eq_getElem?_getD,List.getElem?_map,List.getElem?_zipIdx,h];simp
theorem Xd4 {t:Tbl}{n:Nat}{sz:Int}(h:t.p.q[n]? = none):(Xak t sz).getD n [] = []:=by
 unfold Xak;rw[List.getD_eq_getElem?_getD,List.getElem?_map,List.getElem?_zipIdx,h]
 rfl
theorem Xli {p:Pln}{l:List Hld}(h:∀x ∈ l,Xca p x):Xi0 l:=fun x hx=>by
 have:=h x hx;unfold Xca at this;unfold maxT;omega
theorem Xl5 {l:List Spn}(h:l.Pairwise fun a b=>a.til<b.frm)(hp:∀r ∈ l,r.frm<r.til):∀a ∈ l,∀b ∈ l,a.frm=b.frm→a=b:=by
 induction l with
 | nil=>intro a ha; simp at ha
 | cons x l ih =>
   obtain ⟨p1,p2⟩:=List.pairwise_cons.1 h;intro a ha b hb e;have hx:=hp x (by simp)
   rcases List.mem_cons.1 ha with e1 | e1
   ·rcases List.mem_cons.1 hb with e2 | e2
    ·rw[e1,e2]
    ·have:=p1 b e2; rw[e1] at e; omega
   ·rcases List.mem_cons.1 hb with e2 | e2
    ·have:=p1 a e1; rw[e2] at e; omega
    ·exact ih p2 (fun r hr=>hp r (by simp[hr])) a e1 b e2 e
theorem Xfq {t:Tbl}{q:Rq}(ht:Xb5 t)(hq:RqOK t.p q):GOK (grf t q):=by
 obtain ⟨hp,hb,hh⟩:=ht;obtain ⟨_,h1,h2,h3,h4,_⟩:=hq;have hct:=hp.2.2.1;refine ⟨fun c hc=>?_,fun c hc=>?_,fun i c hc=>?_,⟨h1.1,h3⟩,fun l hl a ha b hb e=>?_⟩
 ·have:=(hct c hc).1; unfold CtOK at this; omega
 ·have:=(hct c hc).1; unfold CtOK at this; omega
 ·show 0≤(t.p.c.map fun c=>dur c q.size).getD i 0;have hc':t.p.c[i]? = some c:=hc;rw[List.getD_eq_getElem?_getD,List.getElem?_map,hc'];have:=Xdw (hct c (List.mem_of_getElem? hc')).1 h4.1;simp only[Option.map_some,Option.getD_some];omega
 ·have hl':l ∈ Xak t q.size:=hl;unfold Xak at hl';obtain ⟨qn,_,rfl⟩:=List.mem_map.1 hl';obtain ⟨r1,r2⟩:=Xcr (Xli hh.2.1) qn.2 qn.1 q.size;exact Xl5 r2 (fun r hr=>(r1 r hr).2.1) a ha b hb e
theorem Xjw {t:Tbl}{q:Rq}(ht:Xb5 t)(hq:RqOK t.p q):Xty (grf t q) (Xra t) (Xr9 t q.size):=by
 obtain ⟨hp,hb,hh⟩:=ht;obtain ⟨_,h1,h2,h3,h4,_⟩:=hq;have hct:=hp.2.2.1;have hfi:=Xli hh.2.1;refine ⟨?_,?_,?_,?_,?_,?_,?_,?_,?_⟩
 ·intro i c s hc hs b e hb1 he1;have hc':t.p.c[i]? = some c:=hc;have hs':s ∈ (Xb6 t).getD i []:=hs;rw[Xe7 hc'] at hs';obtain ⟨f1,f2,f3⟩:=Xe9 hb hc';obtain ⟨a1,a2,a3,a4⟩:=(Xcx f1 f3).1 s hs';have:=a3 f2;refine ⟨c,hc',by omega,by omega,fun x hx hxi=>?_⟩
  have:=a4 ⟨x.beg,x.fin⟩ (Xha.2 ⟨x,hx,hxi,rfl⟩);simp only at this;omega
 ·intro i c b e hc hbe hf;have hc':t.p.c[i]? = some c:=hc;show ∃s ∈ (Xb6 t).getD i [],_;rw[Xe7 hc'];obtain ⟨f1,f2,f3⟩:=Xe9 hb hc';obtain ⟨c2,h5,h6,h7,h8⟩:=hf;rw[hc'] at h5;cases h5;refine Xhn hbe h7 f1 f3 h6 (fun x hx=>?_);obtain ⟨y,hy,hy2,rfl⟩:=Xha.1 hx;exact h8 y hy hy2
 ·intro i;show ((Xb6 t).getD i []).Pairwise _;cases hc:t.p.c[i]? with
  | none=>rw[Xms hc]; simp
  | some c =>
    rw[Xe7 hc];obtain ⟨f1,f2,f3⟩:=Xe9 hb hc;obtain ⟨g1,g2⟩:=Xcx (fin:=c.fin) f1 f3;refine g2.imp_of_mem (fun {a b} ha hb hab=>?_);have:=(g1 a ha).2.1;omega
 ·intro n r hn hr b e hb1 he1;have hr':r ∈ (Xak t q.size).getD n.toNat []:=hr;cases hqn:t.p.q[n.toNat]? with
  | none=>rw[Xd4 hqn] at hr'; simp at hr'
  | some qn =>
    rw[Xdg hqn] at hr';obtain ⟨a1,a2,a3,a4⟩:=(Xcr hfi n.toNat qn q.size).1 r hr';rw[Int.toNat_of_nonneg hn] at a4;exact ⟨by omega,by omega,qn,hqn,fun tm ht1 ht2=>a4 tm (by omega) (by omega)⟩
 ·intro n b e hn hbe hf;show ∃r ∈ (Xak t q.size).getD n.toNat [],_;obtain ⟨h5,h6,qn,h7,h8⟩:=hf;rw[Xdg h7];have hn':=Int.toNat_of_nonneg hn;refine Xgz hfi n.toNat qn q.size h5 hbe h6 (fun tm ht1 ht2=>?_);rw[hn'];exact h8 tm ht1 ht2
 ·intro n;show ((Xak t q.size).getD n []).Pairwise _;cases hqn:t.p.q[n]? with
  | none=>rw[Xd4 hqn]; simp
  | some qn =>
    rw[Xdg hqn];exact (Xcr hfi n qn q.size).2.imp (fun {a b} h=>by omega)
 ·intro n r hr;have hr':r ∈ (Xak t q.size).getD n []:=hr;cases hqn:t.p.q[n]? with
  | none=>rw[Xd4 hqn] at hr'; simp at hr'
  | some qn =>
    rw[Xdg hqn] at hr';exact ((Xcr hfi n qn q.size).1 r hr').2.1
 ·intro i c b e hc hf;obtain ⟨c2,h5,h6,h7,h8⟩:=hf;have:=(hct c2 (List.mem_of_getElem? h5)).1;unfold CtOK at this;omega
 ·intro i c hc;have hc':t.p.c[i]? = some c:=hc;have h5:=(hct c (List.mem_of_getElem? hc')).1;have h6:=Xdw h5 h4.1;unfold CtOK at h5;refine ⟨?_,by omega⟩
  show 1≤(t.p.c.map fun c=>dur c q.size).getD i 0;rw[List.getD_eq_getElem?_getD,List.getElem?_map,hc'];simp only[Option.map_some,Option.getD_some];omega
def Xbw (p:Pln)(q:Rq):Int→Int→List Hop→Prop
 | _,_, [] => True
 | n,a,h :: l => ∃c,(0≤h.ct∧p.c[h.ct.toNat]? = some c)∧c.src=n∧n ≠ q.dst∧a≤h.beg∧c.beg≤h.beg∧h.beg≤c.fin - dur c q.size∧h=⟨h.ct,h.beg,h.beg+dur c q.size,h.beg+dur c q.size+c.rng⟩∧Xbw p q c.dst h.arr l
def Xc7 (p:Pln):Int→Int→List Hop→Int × Int
 | n,a, [] => (n,a)
 | _,_,h :: l=>Xc7 p ((p.c[h.ct.toNat]?.map Ct.dst).getD 0) h.arr l
def Xax (p:Pln)(q:Rq)(l:List Hop):Prop:=RqOK p q∧l ≠ [] ∧ l.length≤1000∧Xbw p q q.src q.ready l∧(Xc7 p q.src q.ready l).1=q.dst∧(Xc7 p q.src q.ready l).2≤q.dead
def bksL (l:List Hop)(ticket:Int):List Bkg:=l.map fun h=>⟨h.ct,h.beg,h.fin,ticket⟩
def Xcv (p:Pln)(q:Rq)(l:List Hop)(ticket:Int):List Hld:=(Xfo p.c q.cust q.src q.ready l).map fun k=>⟨k.node,k.frm,k.til,q.size,ticket⟩
def apartB (a b:Bkg):Prop:=bkLt a b∨bkLt b a
theorem Xdk (n tm:Int):∀(a b:List Hld),used (a ++ b) n tm=used a n tm+used b n tm
 | [],b=>by simp[used]
 | h :: a,b=>by
   rw[List.cons_append,Xb1,Xb1,Xdk n tm a b]; omega
theorem Xdj {n tm:Int}:∀ {a:List Hld},(∀h ∈ a,0≤h.size)→0≤used a n tm
 | [],_=>by simp[used]
 | h :: a,hs=>by
   have:=Xdj (n:=n) (tm:=tm) (a:=a) (fun x hx=>hs x (by simp[hx]))
   have:=hs h (by simp)
   rw[Xb1]; split <;> omega
theorem Xid {n tm sz:Int}(hsz:0≤sz):∀ {a:List Hld},(∀h ∈ a,h.size=sz)→a.Pairwise (fun a b=>a.node=b.node→a.til≤b.frm∨b.til≤a.frm)→used a n tm=0∨(used a n tm=sz ∧ ∃h ∈ a,h.node=n∧h.frm≤tm∧tm<h.til)
 | [],_,_=>by simp[used]
 | h :: a,hs,hp=>by
   obtain ⟨p1,p2⟩:=List.pairwise_cons.1 hp;have ih:=Xid hsz (n:=n) (tm:=tm) (a:=a) (fun x hx=>hs x (by simp[hx])) p2
   rw[Xb1]
   by_cases hc:h.node=n∧h.frm≤tm∧tm<h.til
   ·rw[if_pos hc];right;rcases ih with e | ⟨e,k,hk,k1,k2,k3⟩
    ·exact ⟨by rw[e,hs h (by simp)]; omega,h,by simp,hc⟩
    ·have:=p1 k hk (by rw[hc.1,k1]); omega
   ·rw[if_neg hc];rcases ih with e | ⟨e,k,hk,k1⟩
    ·left; omega
    ·right; exact ⟨by omega,k,by simp[hk],k1⟩
variable {t:Tbl} {q:Rq}
theorem Xqn {i:Nat}{c:Ct}(h:t.p.c[i]? = some c):(grf t q).durs.getD i 0=dur c q.size:=by
 show (t.p.c.map fun c=>dur c q.size).getD i 0=_;rw[List.getD_eq_getElem?_getD,List.getElem?_map,h]; rfl
theorem Xhe (p:Pln):∀ {m:List Hop}{n a:Int},m ≠ [] → (Xc7 p n a m).2=Xac m
 | [],_,_,h=>absurd rfl h
 | [h],_,_,_=>rfl
 | _ :: k :: l,_,_,_=>by
   rw[Xc7,Xhe p (by simp)]; rfl
theorem Xkh {α:Type}(f:α → Nat)(g:α → Nat):∀ {l:List α},(∀x ∈ l,f x≤g x)→(l.map f).sum≤(l.map g).sum
 | [],_=>Nat.le_refl _
 | a :: l,h=>by
   have:=Xkh f g (l:=l) (fun x hx=>h x (by simp[hx]))
   have:=h a (by simp)
   simp only[List.map_cons,List.sum_cons];omega
def cntN (l:List Hld)(n:Nat):Nat:=(l.filter fun h:Hld=>decide (h.node=(n:Int))).length
theorem Xqs (h:Hld)(l:List Hld)(n:Nat):cntN (h :: l) n=(if h.node=(n:Int) then 1 else 0)+cntN l n:=by
 unfold cntN;rw[List.filter_cons]
 by_cases e:h.node=(n:Int)
 ·rw[if_pos (by simpa using e),if_pos e,List.length_cons]; omega
 ·rw[if_neg (by simpa using e),if_neg e]; omega
theorem Xqr (h:Hld)(l:List Hld):∀(ns:List Nat),ns.Nodup→(ns.map (cntN (h :: l))).sum≤(ns.map (cntN l)).sum+1∧((∀n ∈ ns,h.node ≠ (n:Int))→(ns.map (cntN (h :: l))).sum=(ns.map (cntN l)).sum)
 | [],_=>by simp
 | a :: ns,hn=>by
   obtain ⟨n1,n2⟩:=List.nodup_cons.1 hn;obtain ⟨j1,j2⟩:=Xqr h l ns n2;simp only[List.map_cons,List.sum_cons];rw[Xqs]
   by_cases e:h.node=(a:Int)
   ·have hne:∀n ∈ ns,h.node ≠ (n:Int):=fun n hn' e2=>n1 (by
     have:a=n:=by omega
     rw[this]; exact hn')
    have j3:=j2 hne;rw[if_pos e];exact ⟨by omega,fun hh=>absurd e (hh a (by simp))⟩
   ·rw[if_neg e];refine ⟨by omega,fun hh=>?_⟩
    rw[j2 (fun n hn' => hh n (by simp[hn']))]
    omega
theorem count_le:∀(l:List Hld)(ns:List Nat),ns.Nodup→(ns.map (cntN l)).sum≤l.length
 | [],ns,_=>by
   have:∀ns:List Nat,(ns.map (cntN [])).sum=0:=by
    intro ns
    induction ns with
    | nil=>rfl
    | cons a l ih=>rw[List.map_cons,List.sum_cons,ih]; rfl
   rw[this]; exact Nat.zero_le _
 | h :: l,ns,hn=>by
   have h1:=count_le l ns hn;have h2:=(Xqr h l ns hn).1;rw[List.length_cons];omega
theorem Xqd (ht:Xb5 t)(q:Rq):keyN (grf t q)≤t.p.q.length+t.h.length:=by
 unfold keyN;show ((Xak t q.size).map List.length).sum≤_;unfold Xak;rw[List.map_map];have h1:=Xkh (fun qn:Int × Nat=>(Xc qn.1 q.size (Xae t.h qn.2)).length) (fun qn=>1+cntN t.h qn.2) (l:=t.p.q.zipIdx) (fun x _=>Xh0 (Xli ht.2.2.2.1) x.2 x.1 q.size);have h2:∀(l:List (Int × Nat)),(l.map fun qn=>1+cntN t.h qn.2).sum=l.length+((l.map Prod.snd).map (cntN t.h)).sum:=by
  intro l
  induction l with
  | nil=>rfl
  | cons a l ih=>simp only[List.map_cons,List.sum_cons,List.length_cons,ih]; omega
 have h3:(t.p.q.zipIdx.map Prod.snd).Nodup:=by
  rw[List.zipIdx_map_snd];exact List.nodup_range'
 have h4:=count_le t.h _ h3;have h5:=h2 t.p.q.zipIdx;rw[List.length_zipIdx] at h5;have h6:(List.map (List.length ∘ fun (qn:Int × Nat)=>Xc qn.1 q.size (Xae t.h qn.2)) t.p.q.zipIdx).sum=(t.p.q.zipIdx.map fun qn:Int × Nat=>(Xc qn.1 q.size (Xae t.h qn.2)).length).sum:=rfl;rw[h6];omega
end Go.Proofs.YtebkgbmijocdjaaGreat.Tp
