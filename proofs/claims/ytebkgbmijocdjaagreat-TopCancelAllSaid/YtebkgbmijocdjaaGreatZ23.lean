/- A part of the proof for the ledger. No condition beyond those that each theorem states. -/
import Derived.Test.YtebkgbmijocdjaaGreatZ19
set_option maxHeartbeats 32000000
set_option maxRecDepth 100000
set_option linter.unusedVariables false
set_option linter.unusedSimpArgs false
namespace Go.Proofs.YtebkgbmijocdjaaGreat.Tp
open Go Go.RowKit
section
variable {t:Tbl} {q:Rq}
end
def befM (to_:Lab):List (Lab × Hop)→Option Hop
 | [] => none
 | y :: l=>if same y.1 to_ && y.1.time == to_.time then some y.2 else befM to_ l
def befF (g:Grf)(to_:Lab):List Lab→Option (Lab × Hop)
 | [] => none
 | x :: l=>match befM to_ (Xag g x) with
   | some h=>some (x,h)
   | none=>befF g to_ l
theorem Xlr {to_:Lab}{h:Hop}:∀ {l:List (Lab × Hop)},befM to_ l=some h → ∃y,(y,h) ∈ l∧same y to_=true∧y.time=to_.time
 | [],e=>by simp[befM] at e
 | y :: l,e=>by
   unfold befM at e
   split at e
   ·rename_i hc
    cases e;simp only[Bool.and_eq_true,beq_iff_eq] at hc;exact ⟨y.1,by simp,hc.1,hc.2⟩
   ·obtain ⟨z,hz,h2⟩:=Xlr e;exact ⟨z,by simp[hz],h2⟩
theorem Xls {to_:Lab}:∀ {l:List (Lab × Hop)},befM to_ l=none → ∀y h,(y,h) ∈ l→same y to_=true→y.time ≠ to_.time
 | [],_,y,h,hm=>by simp at hm
 | z :: l,e,y,h,hm=>by
   unfold befM at e
   split at e
   ·cases e
   ·rename_i hc
    intro h1 h2;rcases List.mem_cons.1 hm with e2 | e2
    ·subst e2;exact hc (by simp[h1,h2])
    ·exact Xls e y h e2 h1 h2
theorem Xhy {g:Grf}{to_ x:Lab}{h:Hop}:∀ {l:List Lab},befF g to_ l=some (x,h)→x ∈ l ∧ ∃y,(y,h) ∈ Xag g x∧same y to_=true∧y.time=to_.time
 | [],e=>by simp[befF] at e
 | z :: l,e=>by
   unfold befF at e
   split at e
   ·rename_i k hk
    cases e;exact ⟨by simp,Xlr hk⟩
   ·obtain ⟨h1,h2⟩:=Xhy e;exact ⟨by simp[h1],h2⟩
theorem Xhz {g:Grf}{to_:Lab}:∀ {l:List Lab},befF g to_ l=none → ∀x ∈ l,∀y h,(y,h) ∈ Xag g x→same y to_=true→y.time ≠ to_.time
 | [],_,x,hx=>by simp at hx
 | z :: l,e,x,hx=>by
   unfold befF at e
   split at e
   ·cases e
   ·rename_i hk
    rcases List.mem_cons.1 hx with e2 | e2
    ·subst e2; exact Xls hk
    ·exact Xhz e x e2
def arrT (g:Grf)(L:List Lab):List Int:=L.flatMap fun x=>(Xag g x).filterMap fun y=>if y.1.node=g.dst then some y.1.time else none
def minO:Option Int→List Int→Option Int
 | o, [] => o
 | none,t :: l=>minO (some t) l
 | some b,t :: l=>minO (some (if t<b then t else b)) l
theorem Xgo:∀(a b:List Int)(o:Option Int),minO o (a ++ b)=minO (minO o a) b
 | [],b,o=>by cases o <;> rfl
 | t :: a,b,none=>by rw[List.cons_append,minO,minO,Xgo a b]
 | t :: a,b,some c=>by rw[List.cons_append,minO,minO,Xgo a b]
theorem Xh7:∀ {l:List Int}{b:Int},∃n,minO (some b) l=some n∧(n=b∨n ∈ l)∧n≤b ∧ ∀t ∈ l,n≤t
 | [],b=>⟨b,rfl,.inl rfl,Int.le_refl _,by simp⟩
 | t :: l,b=>by
   obtain ⟨n,h1,h2,h3,h4⟩:=Xh7 (l:=l) (b:=if t<b then t else b)
   refine ⟨n,h1,?_,?_,?_⟩
   ·rcases h2 with h2 | h2
    ·split at h2
     ·exact .inr (by simp[h2])
     ·exact .inl h2
    ·exact .inr (by simp[h2])
   ·split at h3 <;> omega
   ·intro u hu;rcases List.mem_cons.1 hu with e | e
    ·subst e; split at h3 <;> omega
    ·exact h4 u e
theorem Xlb {l:List Int}:minO none l=none↔l = []:=by
 cases l with
 | nil=>simp[minO]
 | cons t l =>
   obtain ⟨n,h1, -⟩:=Xh7 (l:=l) (b:=t);rw[minO,h1]; simp
theorem Xdh {l:List Int}{n:Int}(h:minO none l=some n):n ∈ l ∧ ∀t ∈ l,n≤t:=by
 cases l with
 | nil=>simp[minO] at h
 | cons t l =>
   obtain ⟨m,h1,h2,h3,h4⟩:=Xh7 (l:=l) (b:=t);rw[minO,h1] at h;cases h;refine ⟨?_,fun u hu=>?_⟩
   ·rcases h2 with h2 | h2
    ·simp[h2]
    ·simp[h2]
   ·rcases List.mem_cons.1 hu with e | e
    ·rw[e]; exact h3
    ·exact h4 u e
theorem Xji {g:Grf}{L:List Lab}{t:Int}:t ∈ arrT g L ↔ ∃x ∈ L,∃y h,(y,h) ∈ Xag g x∧y.node=g.dst∧y.time=t:=by
 unfold arrT;simp only[List.mem_flatMap,List.mem_filterMap];constructor
 ·rintro ⟨x,hx,⟨y,h⟩,h1,h2⟩;simp only at h2
  split at h2
  ·cases h2;exact ⟨x,hx,y,h,h1,by assumption,rfl⟩
  ·cases h2
 ·rintro ⟨x,hx,y,h,h1,h2,h3⟩;exact ⟨x,hx,(y,h),h1,by simp[h2,h3]⟩
def endL (g:Grf)(a:Int):Lab:=⟨g.dst,0,1099511627776,a⟩
theorem Xp2 {g:Grf}{L:List Lab}{a:Int}{x:Lab}{h:Hop}(e:befF g (endL g a) L=some (x,h)):Xc1 g L a x [h] [x]:=by
 obtain ⟨hx,y,hm,hs,ht⟩:=Xhy e;exact .last hx hm (same_iff.1 hs).1 ht
theorem Xqz {g:Grf}{L:List Lab}{a:Int}{x z:Lab}{h:Hop}{hs:List Hop}{xs:List Lab}(hp:Xc1 g L a z hs xs)(e:befF g z L=some (x,h)):Xc1 g L a x (h :: hs) (x :: xs):=by
 obtain ⟨hx,y,hm,hs,ht⟩:=Xhy e;refine .cons hx hm ?_ hs ht hp;obtain ⟨l,rfl⟩:=hp.head;exact hp.sub z (by simp)
theorem Xn1 {g:Grf}{L:List Lab}{a:Int}(h:a ∈ arrT g L):befF g (endL g a) L ≠ none:=by
 obtain ⟨x,hx,y,k,hm,hn,ht⟩:=Xji.1 h;intro e;refine Xhz e x hx y k hm ?_ ht;obtain ⟨i,c,r,h1,h2,h3,h4,h5,rfl⟩:=Xaz.1 hm;unfold Xbb at h3;rw[if_pos hn,List.mem_singleton] at h3;subst h3;exact same_iff.2 ⟨hn,rfl⟩
theorem Xp3 {g:Grf}{L:List Lab}(hL:Labs g L){z:Lab}(hz:z ∈ L)(hs:¬ (z.node=g.src∧z.time=g.ready)):befF g z L ≠ none:=by
 intro e;rcases hL.sound z hz with h | ⟨x,hx,k,hm⟩
 ·obtain ⟨r,_,_,_,rfl⟩:=Start.iff.1 h;exact hs ⟨rfl,rfl⟩
 ·exact Xhz e x hx z k hm (Xdd z) rfl
def Xfv (g:Grf)(L:List Lab)(a:Int)(out:List Hop)(to_:Lab):Prop:=(out = [] ∧ to_=endL g a) ∨ ∃xs,Xc1 g L a to_ out.reverse xs
theorem Xfv.next {g:Grf}{L:List Lab}{a:Int}{out:List Hop}{to_ x:Lab}{h:Hop}(hb:Xfv g L a out to_)(e:befF g to_ L=some (x,h)):Xfv g L a (out ++ [h]) x:=by
 rcases hb with ⟨rfl,rfl⟩ | ⟨xs,hp⟩
 ·exact .inr ⟨_,Xp2 e⟩
 ·refine .inr ⟨x :: xs,?_⟩;rw[List.reverse_append];exact Xqz hp e
theorem Xfv.found {g:Grf}{L:List Lab}(hL:Labs g L){a:Int}(ha:a ∈ arrT g L){out:List Hop}{to_:Lab}(hb:Xfv g L a out to_)(hs:out = [] ∨ ¬ (to_.node=g.src∧to_.time=g.ready)):befF g to_ L ≠ none:=by
 rcases hb with ⟨rfl,rfl⟩ | ⟨xs,hp⟩
 ·exact Xn1 ha
 ·rcases hs with rfl | hs
  ·have:=hp.len;cases hp
  ·refine Xp3 hL ?_ hs;obtain ⟨l,rfl⟩:=hp.head;exact hp.sub _ (by simp)
theorem Xfv.few {g:Grf}(hg:GOK g){L:List Lab}{a:Int}{out:List Hop}{to_:Lab}(hb:Xfv g L a out to_):out.length≤L.length:=by
 rcases hb with ⟨rfl,rfl⟩ | ⟨xs,hp⟩
 ·exact Nat.zero_le _
 ·have:=hp.few hg
  rwa [List.length_reverse] at this
end Go.Proofs.YtebkgbmijocdjaaGreat.Tp
namespace Go.Proofs.YtebkgbmijocdjaaGreat.Tp
open Go Go.RowKit
theorem Xrp (g:Grf)(x:Lab)(i:Nat)(c:Ct)(r:Spn):(mvOf g x i c r).length≤1:=by
 unfold mvOf
 split
 ·simp
 ·split <;> simp
theorem Xhp {α β:Type}(f:α → List β):∀(l:List α),(∀a ∈ l,(f a).length≤1)→(l.flatMap f).length≤l.length
 | [],_=>by simp
 | a :: l,h=>by
   rw[List.flatMap_cons,List.length_append,List.length_cons];have h1:=h a (by simp)
   have h2:=Xhp f l fun b hb=>h b (by simp[hb])
   omega
theorem Xrq (g:Grf)(x:Lab)(i:Nat)(c:Ct)(M:Nat)(h:∀n,(Xbb g n).length≤M):(mvCt g x i c).length≤M:=by
 unfold mvCt
 split
 ·exact Nat.le_trans (Xhp _ _ fun r _=>Xrp g x i c r) (h _)
 ·simp
theorem Xfh (g:Grf)(x:Lab)(M:Nat)(h:∀n,(Xbb g n).length≤M):∀(l:List Ct)(k:Nat),(Xal g x k l).length≤l.length * M
 | [],k=>by simp[Xal]
 | c :: l,k=>by
   rw[Xal,List.length_append,List.length_cons,Nat.succ_mul];have h1:=Xrq g x k c M h;have h2:=Xfh g x M h l (k+1);omega
section
variable {t:Tbl} {q:Rq}
theorem Xig (ht:Xb5 t)(n:Int):(Xbb (grf t q) n).length≤513:=by
 unfold Xbb
 split
 ·simp
 ·show ((Xak t q.size).getD n.toNat []).length≤513;cases he:t.p.q[n.toNat]? with
  | none=>rw[Xd4 he]; simp
  | some y =>
    rw[Xdg he];have h1:=Xh0 (Xli (p:=t.p) ht.2.2.2.1) (n.toNat:Int) y q.size;have h2:(t.h.filter fun h:Hld=>decide (h.node=(n.toNat:Int))).length≤t.h.length:=List.length_filter_le _ _;have h3:=ht.2.2.1;omega
theorem Xff (ht:Xb5 t)(x:Lab):(Xag (grf t q) x).length<1000000:=by
 have h1:=Xfh (grf t q) x 513 (Xig ht) (grf t q).cs 0;have h2:(grf t q).cs.length≤64:=ht.1.1.2.2;have h3:(grf t q).cs.length * 513≤64 * 513:=Nat.mul_le_mul_right _ h2;unfold Xag;omega
theorem Xpv (ht:Xb5 t)(hq:RqOK t.p q){n:Int}(hn:0≤n){r:Spn}(hr:r ∈ (grf t q).rooms.getD n.toNat []):0≤r.frm∧r.frm<r.til∧r.til≤1099511627776:=by
 have hf:=Xjw ht hq;have h1:=hf.roomS n r hn hr r.frm r.til (Int.le_refl _) (Int.le_refl _);have h2:=hf.roomP n.toNat r hr;obtain ⟨h3,h4, -⟩:=h1;unfold maxT at h4;exact ⟨h3,h2,h4⟩
theorem Xh1 (ht:Xb5 t)(hq:RqOK t.p q)(n:Int)(r:Spn)(hr:r ∈ Xbb (grf t q) n):0≤r.frm∧r.frm≤1099511627776:=by
 unfold Xbb at hr
 split at hr
 ·rw[List.mem_singleton.1 hr];exact ⟨by decide,by decide⟩
 ·have h:=Xpv ht hq (n:=(n.toNat:Int)) (by omega) (r:=r) (by rw[Int.toNat_natCast]; exact hr)
  omega
theorem Xmt (ht:Xb5 t)(hq:RqOK t.p q){x:Lab}(hx:Fine (grf t q) x):0≤x.time∧x.time≤1099511627776:=by
 have h:=Xpv ht hq hx.2.1 hx.2.2.1;have h2:x.frm≤x.time:=hx.2.2.2.1;have h3:x.time<x.til:=hx.2.2.2.2;simp only at h;omega
theorem Xjt (ht:Xb5 t):keyN (grf t q)≤528:=by
 have h1:=Xqd ht q;have h2:=ht.2.2.1;have h3:=ht.1.1.2.1;omega
end
theorem Xpg {t:Tbl}{q:Rq}(ht:Xb5 t)(hq:RqOK t.p q):(Xf8 (grf t q)).length≤513:=by
 unfold Xf8;rw[List.length_map];refine Nat.le_trans (List.length_filter_le _ _) ?_;have h:=Xig (q:=q) ht (grf t q).src;unfold Xbb at h;rw[if_neg (by exact hq.2.2.2.1)] at h
 exact h
theorem Xrf {t:Tbl}{q:Rq}(ht:Xb5 t)(s:List Lab × List Lab):(Xi2 (grf t q) s).2.length≤s.2.length+1000000:=by
 obtain ⟨done,o⟩:=s;cases o with
 | nil=>simp[Xi2]
 | cons a l =>
   rw[Xi2];simp only[List.length_append];have h1:=List.length_filter_le (fun y => !same (Xar a l) y) (a :: l);have h2:(Xew (grf t q) (done ++ [Xar a l]) (Xar a l)).length≤(Xag (grf t q) (Xar a l)).length:=by
    unfold Xew;refine Nat.le_trans (List.length_filter_le _ _) ?_;rw[List.length_map];exact Nat.le_refl _
   have h3:=Xff (q:=q) ht (Xar a l);omega
theorem Xnh {t:Tbl}{q:Rq}(ht:Xb5 t)(hq:RqOK t.p q):∀k,(Xb0 (grf t q) k).2.length≤513+k * 1000000
 | 0=>by have:=Xpg ht hq; show (Xf8 (grf t q)).length≤_; omega
 | k+1=>by
   have h1:=Xnh ht hq k;have h2:=Xrf (q:=q) ht (Xb0 (grf t q) k);show (Xi2 (grf t q) (Xb0 (grf t q) k)).2.length≤_;omega
def newP (dst:Int)(D:List Lab)(pre:List (Lab × Hop)):List Lab:=(pre.map (·.1)).filter fun y => !(y.node == dst) && !(D.any fun z=>same y z)
theorem Xrn {dst:Int}{D:List Lab}{pre:List (Lab × Hop)}{y:Lab × Hop}(h1:y.1.node ≠ dst)(h2:∀z ∈ D,same y.1 z=false):newP dst D (pre ++ [y])=newP dst D pre ++ [y.1]:=by
 unfold newP;rw[List.map_append,List.filter_append];have h3:(D.any fun z=>same y.1 z)=false:=by
  rw[List.any_eq_false];intro z hz;rw[h2 z hz];simp
 have h4:(y.1.node == dst)=false:=by simpa using h1
 simp[h3,h4]
theorem Xq1 {dst:Int}{D:List Lab}{pre:List (Lab × Hop)}{y:Lab × Hop}(h:y.1.node=dst ∨ ∃z ∈ D,same y.1 z=true):newP dst D (pre ++ [y])=newP dst D pre:=by
 unfold newP;rw[List.map_append,List.filter_append];rcases h with h | ⟨z,hz,h⟩
 ·have h4:(y.1.node == dst)=true:=by simpa using h
  simp[h4]
 ·have h3:(D.any fun z=>same y.1 z)=true:=List.any_eq_true.2 ⟨z,hz,h⟩;simp[h3]
theorem Xro (dst:Int)(D:List Lab)(pre:List (Lab × Hop)):(newP dst D pre).length≤pre.length:=by
 unfold newP;refine Nat.le_trans (List.length_filter_le _ _) ?_;rw[List.length_map];exact Nat.le_refl _
def stL (src ready:Int)(l:List Spn):List Lab:=(l.filter fun r=>decide (r.frm≤ready) && decide (ready<r.til)).map fun r=>⟨src,r.frm,r.til,ready⟩
theorem Xj3 (src ready:Int)(l:List Spn)(r:Spn):stL src ready (l ++ [r])=if r.frm≤ready∧ready<r.til then stL src ready l ++ [⟨src,r.frm,r.til,ready⟩] else stL src ready l:=by
 unfold stL;rw[List.filter_append,List.map_append]
 split
 ·rename_i h
  simp[h.1,h.2]
 ·rename_i h
  by_cases h1:r.frm≤ready
  ·have h2:¬ ready<r.til:=fun h2=>h ⟨h1,h2⟩;simp[h2]
  ·simp[h1]
end Go.Proofs.YtebkgbmijocdjaaGreat.Tp
