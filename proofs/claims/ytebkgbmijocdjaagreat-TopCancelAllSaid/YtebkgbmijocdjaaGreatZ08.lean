/- A part of the proof for the ledger. No condition beyond those that each theorem states. -/
import Derived.Lib.SliceRun
import Derived.Lib.AppendZerosOnto
import Derived.Lib.Overlaps
import Derived.Laws.Externs
import Derived.Deep.RegionLaw
import Derived.Test.YtebkgbmijocdjaaGreatZ07
set_option maxHeartbeats 32000000
set_option maxRecDepth 100000
set_option linter.unusedVariables false
set_option linter.unusedSimpArgs false
namespace Go.Proofs.YtebkgbmijocdjaaGreat.Tp
open Go Go.RowKit
structure Tk where
 num:Int
 rq:Rq
 hops:List Hop
 st:Int
 til:Int
 deriving DecidableEq
abbrev tkA (k : Tk) (A : Option Addr) (c : Nat) : Array Value := #[.int .i64 k.num, .int .i64 k.rq.src, .int .i64 k.rq.dst, .int .i64 k.rq.size, .int .i64 k.rq.ready, .int .i64 k.rq.dead, .int .i64 k.rq.prio, .bool k.rq.cust, .slice A k.hops.length c, .int .i64 k.st, .int .i64 k.til]
def ctD (p:Pln)(i:Int):Ct:=p.c.getD i.toNat ⟨0,0,0,0,0,0,0⟩
def Xc9 (q:Rq)(tk n f t:Int):List Hld:=if f<t then [⟨n,f,t,q.size,tk⟩] else []
def Xck (p:Pln)(q:Rq)(tk til:Int):Int→Int→List Hop→List Hld
 | n,f, [] => if n=q.dst then [] else Xc9 q tk n f til
 | n,f,h :: l=>Xc9 q tk n f (Xav q.cust (ctD p h.ct) h) ++ Xck p q tk til (ctD p h.ct).dst h.beg l
def hdsT (p:Pln)(k:Tk):List Hld:=Xck p k.rq k.num k.til k.rq.src k.rq.ready k.hops
def bksT (k:Tk):List Bkg:=bksL k.hops k.num
def bksA (ts:List Tk):List Bkg:=ts.flatMap bksT
def hdsA (p:Pln)(ts:List Tk):List Hld:=ts.flatMap (hdsT p)
def begN (now:Int)(l:List Hop):Nat:=(l.takeWhile fun h=>decide (h.beg≤now)).length
def Xo7 (p:Pln)(now:Int)(k:Tk):Nat→Int × Int
 | 0=>(k.rq.src,max now k.rq.ready)
 | n+1=>match k.hops[n]? with
   | none=>(0,0)
   | some h=>((ctD p h.ct).dst,max (max now k.rq.ready) h.arr)
def posF (p:Pln)(now:Int)(k:Tk):Option (Int × Int):=if k.st=1∧begN now k.hops ≠ k.hops.length then some (Xo7 p now k (begN now k.hops)) else none
def Xd1 (p:Pln)(now:Int)(k:Tk):Bool:=(posF p now k).isSome && (k.hops.take (begN now k.hops)).all fun h=>decide (Xav k.rq.cust (ctD p h.ct) h≤now) && decide (h.arr≤now)
def Xao (now til:Int)(k:Tk):Tk:={ k with hops:=k.hops.take (begN now k.hops),st:=2,til:=til }
def resF (now:Int)(m:List Hop)(k:Tk):Tk:={ k with hops:=k.hops.take (begN now k.hops) ++ m }
def setT:List Tk→Tk→List Tk
 | [],k => [k]
 | x :: l,k=>if x.num=k.num then k :: l else x :: setT l k
def Xbg (ts:List Tk)(n:Int):Option Tk:=ts.find? fun k=>decide (k.num=n)
def Xbk (p:Pln)(now:Int)(ts:List Tk):List Int:=(ts.filter fun k=>decide (k.rq.prio<2) && Xd1 p now k).map (·.num)
def ovlF (now:Int)(m:List Hop)(k:Tk):Bool:=(k.hops.drop (begN now k.hops)).any fun a=>m.any fun b=>decide (a.ct=b.ct) && (decide (a.beg<b.fin) && decide (b.beg<a.fin))
def vicF (p:Pln)(now:Int)(m:List Hop)(ts:List Tk):List Int:=(Xbk p now ts).filter fun n=>match Xbg ts n with | none=>false | some k=>ovlF now m k
def Xad (ts:List Tk):Int:=match ts.getLast? with | none=>1 | some k=>k.num+1
def Xgj (vs:List Int)(now:Int)(L:List Bkg):List Bkg:=L.filter fun b => !(vs.contains b.tick && decide (now<b.beg))
theorem Xau {ts:List Tk}{n:Int}{k:Tk}(h:Xbg ts n=some k):k.num=n ∧ ∃pre post,ts=pre ++ k :: post ∧ ∀x ∈ pre,x.num ≠ n:=by
 induction ts with
 | nil=>simp[Xbg] at h
 | cons x l ih =>
   unfold Xbg at h ih;rw[List.find?_cons] at h
   by_cases e:x.num=n
   ·simp only[e,decide_true,Option.some.injEq] at h;subst h;exact ⟨e, [],l,rfl,by simp⟩
   ·simp only[e,decide_false] at h;obtain ⟨h1,pre,post,rfl,h3⟩:=ih h;refine ⟨h1,x :: pre,post,rfl,fun y hy=>?_⟩;rcases List.mem_cons.1 hy with e2 | e2
    ·rw[e2]; exact e
    ·exact h3 y e2
theorem Xcq {pre post:List Tk}{k k':Tk}(hk:k.num=k'.num)(hp:∀x ∈ pre,x.num ≠ k'.num):setT (pre ++ k :: post) k' = pre ++ k' :: post:=by
 induction pre with
 | nil=>rw[List.nil_append,setT,if_pos hk]; rfl
 | cons x l ih =>
   rw[List.cons_append,setT,if_neg (hp x (by simp)),ih (fun y hy=>hp y (by simp[hy]))]; rfl
theorem Xna {ts:List Tk}{k:Tk}(h:∀x ∈ ts,x.num ≠ k.num):setT ts k=ts ++ [k]:=by
 induction ts with
 | nil=>rfl
 | cons x l ih=>rw[setT,if_neg (h x (by simp)),ih (fun y hy=>h y (by simp[hy]))]; rfl
structure Tm where
 k:Tk
 A:Option Addr
 c:Nat
abbrev tmL (m:Tm):List Value := [iv m.k.num,iv m.k.rq.src,iv m.k.rq.dst,iv m.k.rq.size,iv m.k.rq.ready,iv m.k.rq.dead,iv m.k.rq.prio,.bool m.k.rq.cust,.slice m.A m.k.hops.length m.c,iv m.k.st,iv m.k.til]
def tmE:Enc Tm:=⟨11,tmL,fun _=>rfl,fun m v hv=>by
 simp only[tmL,List.mem_cons,List.not_mem_nil,or_false] at hv;rcases hv with rfl | rfl | rfl | rfl | rfl | rfl | rfl | rfl | rfl | rfl | rfl <;> rfl⟩
def Xf2 (w:World)(A:Option Addr)(ts:List Tk):Prop:=∃ms:List Tm,ms.map (·.k)=ts∧SlAt tmE w A ms ∧ ∀m ∈ ms,HpAt w m.A m.c m.k.hops
theorem Xf2.below {w w':World}{A:Option Addr}{ts:List Tk}(h:Xf2 w A ts)(hb:Below w.heap.size w w'):Xf2 w' A ts:=by
 obtain ⟨ms,h1,h2,h3⟩:=h;exact ⟨ms,h1,h2.below hb,fun m hm=>(h3 m hm).below hb⟩
structure LgAt (w:World)(Aq:Option Addr)(cq:Nat)(Ac:Option Addr)(cc:Nat)(p:Pln)(At:Option Addr)(ct:Nat)(ts:List Tk):Prop where
 p:Xas w Aq cq Ac cc p
 t:Xf2 w At ts
 tl:ts.length≤ct
 tm:ts.length≤100
 hm:∀k ∈ ts,k.hops.length≤4000
theorem LgAt.below {w w':World}{Aq Ac At:Option Addr}{cq cc ct:Nat}{p:Pln}{ts:List Tk}(h:LgAt w Aq cq Ac cc p At ct ts)(hb:Below w.heap.size w w'):LgAt w' Aq cq Ac cc p At ct ts:=⟨h.p.below hb,h.t.below hb,h.tl,h.tm,h.hm⟩
theorem Xhx (now:Int)(l:List Hop):begN now l≤l.length:=(List.takeWhile_sublist _).length_le
theorem Xn {now:Int}:∀ {l:List Hop}{n:Nat},n≤l.length→(∀j x,j<n→l[j]? = some x→x.beg≤now)→(∀x,l[n]? = some x→now<x.beg)→begN now l=n
 | [],n,h,_,_=>by simp at h; subst h; rfl
 | y :: l,0,_,_,h2=>by
   unfold begN;rw[List.takeWhile_cons,if_neg (by have:=h2 y rfl; simpa using this)]
   rfl
 | y :: l,n+1,h,h1,h2=>by
   have ih:=Xn (l:=l) (n:=n) (by simpa using h) (fun j x hj hx=>h1 (j+1) x (by omega) (by simpa using hx)) (fun x hx=>h2 x (by simpa using hx))
   unfold begN at ih ⊢;rw[List.takeWhile_cons,if_pos (by have:=h1 0 y (by omega) rfl; simpa using this),List.length_cons,ih]
theorem Xec (k:Tk)(A:Option Addr)(c:Nat)(now:Int)(w:World)(h:HpAt w A c k.hops)(hl:k.hops.length≤1000000) :
  Calls Tryz.prog 125 #[.agg (tkA k A c),.int .i64 now] w fun e w' => e = .returned (.int .i64 (begN now k.hops))∧Below w.heap.size w w':=by
 have HS:=Lib.hid h;have HB0:Hid (Below w.heap.size w (w.alloc (.cells (tkA k A c) 55))):=(Below.refl _ _).alloc (Nat.le_refl _) _;have HK:=Lib.hid (Bk.new w 55 (tkA k A c));clear h;go_enter Tryz.func125,Tryz.ntmps125;go_wp2;generalize w.alloc (.cells (tkA k A c) 55)=W at HB0 HK ⊢;generalize w.heap.size=g0 at HK ⊢;go_loopw [5,21] (fun i _ wr => ∃n:Nat,n≤k.hops.length∧i = .int .i64 n∧Below W.heap.size W wr ∧ ∀j x,j<n→k.hops[j]? = some x→x.beg≤now) (fun i _ _=>k.hops.length - (intOf i).toNat)
 case atStart=>exact ⟨0,Nat.zero_le _,rfl,Below.refl _ _,fun j x h=>absurd h (Nat.not_lt_zero _)⟩
 case round =>
  obtain ⟨n,hn,rfl,hbw,hno⟩:=hrel;have HBW:=Lib.hid hbw;have HNO:=Lib.hid hno;have HKW:=Lib.hid (HK.out.below hbw HK.out.lt);clear hbw hno;have k0:=HKW.out.c11
  by_cases hlt:n<k.hops.length
  ·obtain ⟨b,off,rfl,hr⟩:=(HS.out.s.below (Xa HB0.out HBW.out)).one (by omega)
   obtain ⟨r,hrk⟩:∃r,k.hops[n]? = some r:=⟨_,List.getElem?_eq_getElem hlt⟩;have HRK:=Lib.hid hrk;have hrg:wr.rangeAt b (off+n * 4) (hpE.f r):=hr n r hrk;have c1:wr.cell? ⟨b,off+n * 4+1,none⟩=some (.int .i64 r.beg):=hrg 1 _ rfl;clear hr hrk hrg
   by_cases hle:r.beg≤now
   ·have HN:Hid (∀j x,j<n+1→k.hops[j]? = some x→x.beg≤now):=fun j x hj hx=>by
     by_cases e:j=n
     ·subst e; rw[HRK.out] at hx; cases hx; exact hle
     ·exact HNO.out j x (by omega) hx
    go_wp2;go_roundw
    case rel=>exact ⟨n+1,by omega,by go_num,HBW.out,HN.out⟩
    case measure=>simp[intOf]; omega
   ·have HE:Hid (begN now k.hops=n):=Xn (by omega) HNO.out (fun x hx=>by rw[HRK.out] at hx; cases hx; omega)
    go_wp2;go_ret;exact ⟨Xh2 (by rw[HE.out]),Xa HB0.out HBW.out⟩
  ·have HE:Hid (begN now k.hops=n):=Xn (by omega) HNO.out (fun x hx=>by have:=(List.getElem?_eq_some_iff.1 hx).1; omega)
   go_wp2;go_ret;exact ⟨Xh2 (by rw[HE.out]),Xa HB0.out HBW.out⟩
def Xr5 {α:Type}(t:TypeId)(E:Enc α)(L:List α)(w:World)(e:Ending)(w':World):Prop:=∃v,e = .returned v∧w'.ownsRow w.heap.size t E.k v L.length (L.flatMap E.f)∧Below w.heap.size w w'
theorem Xjx {α:Type}{E:Enc α}(l:List α):∀u ∈ l.flatMap E.f,u.oneCell' = true:=fun u hu=>by
 obtain ⟨x,_,hx⟩:=List.mem_flatMap.1 hu;exact E.one x u hx
theorem Xg7 {α:Type}{E:Enc α}{w:World}{b off:Nat}:∀ {l:List α},SlAt E w (some ⟨b,off,none⟩) l → ∀j u,(l.flatMap E.f)[j]? = some u→w.cell? ⟨b,off+j,none⟩=some u:=by
 intro l
 induction l generalizing off with
 | nil=>intro _ j u h; simp at h
 | cons x l ih =>
   intro hs j u hj;have hx:w.rangeAt b (off+0 * E.k) (E.f x):=by
    obtain ⟨b',o',e,h⟩:=hs 0 x rfl;cases e;exact h
   have hlen:=E.len x;rw[List.flatMap_cons] at hj
   by_cases h:j<E.k
   ·rw[List.getElem?_append_left (by omega)] at hj
    have:=hx j u hj
    rwa [Nat.zero_mul,Nat.add_zero] at this
   ·rw[List.getElem?_append_right (by omega),hlen] at hj
    have ht:=hs.tail 1;rw[Nat.one_mul] at ht;have:=ih ht (j - E.k) u hj
    rwa [show off+E.k+(j - E.k)=off+j by omega] at this
section
variable {P:Program}
end
theorem Xsz:(Tryz.prog.info? 95).map (fun i=>(i.zero,i.size,i.bytes))=some (some (.agg #[.int .i64 0,.int .i64 0,.int .i64 0,.int .i64 0]),4,32):=by kernel_rfl
end Go.Proofs.YtebkgbmijocdjaaGreat.Tp
namespace Go.Proofs.YtebkgbmijocdjaaGreat.Tp
open Go Go.RowKit
def Xt5 {α:Type}(E:Enc α)(L:List α)(q:Int)(w:World)(e:Ending)(w':World):Prop:=∃A c,e = .returned (.tuple #[.slice A L.length c,.int .i64 q])∧SlAt E w' A L∧L.length≤c∧(∀a,A=some a→w.heap.size≤a.block)∧Below w.heap.size w w'
theorem Xse (Aq:Option Addr)(cq:Nat)(C:Option Addr)(cc:Nat)(p:Pln)(B:Option Addr)(cb:Nat)(l:List Bkg)(k:Nat)(w:World)(hp:Xas w Aq cq C cc p)(hl:SlAt bkE w B l)(hlm:l.length≤maxLen)(hok:Xbe p∧Xk9 p l)(hk:k<p.c.length) :
  Calls Tryz.prog 134 #[.agg (plA Aq cq C cc p),.slice B l.length cb,.int .i64 k] w fun e w' => e = .returned (.int .i64 0)∧Below w.heap.size w w':=by
 have HB0:Hid (Below w.heap.size w (w.alloc (.cells (plA Aq cq C cc p) 25))):=(Below.refl _ _).alloc (Nat.le_refl _) _;have HK:=Lib.hid (Bk.new w 25 (plA Aq cq C cc p));have HC:=Lib.hid (Xds Aq cq C cc p B cb l _ (hp.below HB0.out) (hl.below HB0.out) hlm);have hm:=hp.cm;have HOK:=Lib.hid hok;clear hp hl hok;unfold maxLen at hm;have hge:(0:Int)≤(k:Int):=by omega
 have hd1:decide ((k:Int)<0)=false:=by simp
 go_enter Tryz.func134,Tryz.ntmps134;go_wp2_with fail;generalize w.alloc (.cells (plA Aq cq C cc p) 25)=W at HB0 HK HC ⊢;generalize w.heap.size=g0 at HK ⊢;refine HC.out.mono ?_;rintro e w1 ⟨q,rfl,hq,hb1⟩;obtain rfl:q=0:=hq.2 HOK.out;have HB1:=Lib.hid (Xa HB0.out hb1);have HK1:=Lib.hid (HK.out.below hb1 HK.out.lt);have d0:=HK1.out.cell 0;have d1:=HK1.out.n1;clear hq hb1 HB0 HK HC d0;go_wp2;go_ret;exact ⟨rfl,HB1.out⟩
def Xr8 (g2 g3 base:Nat)(a:Int)(L:List Spn)(w w1:World)(i:Value)(wr:World):Prop:=∃j:Nat,j≤L.length∧i = .int .i64 j∧Below w.heap.size w wr∧w1.heap.size≤wr.heap.size∧(∀q,q<w1.heap.size→q ≠ g2→q ≠ g3→wr.heap[q]? = w1.heap[q]?)∧Boxed wr g3 3 (.int .i64 (Xbo a (L.take j)).2) ∧ ∃v,Boxed wr g2 136 v∧wr.ownsRow base 142 2 v (Xbo a (L.take j)).1.length ((Xbo a (L.take j)).1.flatMap spE.f)
theorem Xch {w w':World}{g:Nat}{t:TypeId}{cs:Array Value}(h:Bk w g t cs)(he:w'.heap[g]? = w.heap[g]?):Bk w' g t cs:=he.trans h
theorem Xih {w w':World}{b o:Nat}{cs:List Value}(he:w'.heap[b]? = w.heap[b]?)(h:w.rangeAt b o cs):w'.rangeAt b o cs:=fun j v hv=>by
 have:=h j v hv;unfold World.cell? at this ⊢;rw[he]; exact this
theorem Xs4 (Aq:Option Addr)(cq:Nat)(C:Option Addr)(cc:Nat)(p:Pln)(B:Option Addr)(cb:Nat)(l:List Bkg)(k:Nat)(r:Ct)(w:World)(hp:Xas w Aq cq C cc p)(hl:SlAt bkE w B l)(hln:l.length≤100000)(hr:p.c[k]? = some r) :
  Calls Tryz.prog 135 #[.agg (plA Aq cq C cc p),.slice B l.length cb,.int .i64 k,.int .i64 r.beg] w (Xcz spE (Xg5 r (Xb3 l k) r.beg) w):=by
 have hk:k<p.c.length:=(List.getElem?_eq_some_iff.1 hr).1;obtain ⟨b,off,rfl, -⟩:=hp.c.one (by omega)
 have HB0:Hid (Below w.heap.size w (w.alloc (.cells #[.slice Aq p.q.length cq,.slice (some ⟨b,off,none⟩) p.c.length cc] 25))):=(Below.refl _ _).alloc (Nat.le_refl _) _;have hm:=hp.cm;unfold maxLen at hm;have hrg:(w.alloc (.cells #[.slice Aq p.q.length cq,.slice (some ⟨b,off,none⟩) p.c.length cc] 25)).rangeAt b (off+k * 7) (ctE.f r):=by
  obtain ⟨b',o',e,h⟩:=hp.c k r hr;cases e;exact Xa3 h HB0.out
 have c0:=Tp.rgCt hrg;have HL:=Lib.hid hl;have HLN:=Lib.hid hln;clear hr hp hl hrg hln HB0;go_enter Tryz.func135,Tryz.ntmps135;go_wp2_with fail;clear c0;obtain ⟨_,_,rfl,rfl,-,HBW,-,HC,-, -⟩:=box4 w 25 #[.slice Aq p.q.length cq,.slice (some ⟨b,off,none⟩) p.c.length cc] 104 (ctA r) 136 #[.slice none 0 0] 3 #[.int .i64 r.beg];have HO:Hid (Boxed ((((w.alloc (.cells #[.slice Aq p.q.length cq,.slice (some ⟨b,off,none⟩) p.c.length cc] 25)).alloc (.cells (ctA r) 104)).alloc (.cells #[.slice none 0 0] 136)).alloc (.cells #[.int .i64 r.beg] 3)) (w.heap.size+1+1) 136 (.slice none 0 0)):=by
  have h:=Boxed.new ((w.alloc (.cells #[.slice Aq p.q.length cq,.slice (some ⟨b,off,none⟩) p.c.length cc] 25)).alloc (.cells (ctA r) 104)) 136 (.slice none 0 0);rw[World.size_alloc,World.size_alloc] at h;exact h.alloc _
 have HA:Hid (Boxed ((((w.alloc (.cells #[.slice Aq p.q.length cq,.slice (some ⟨b,off,none⟩) p.c.length cc] 25)).alloc (.cells (ctA r) 104)).alloc (.cells #[.slice none 0 0] 136)).alloc (.cells #[.int .i64 r.beg] 3)) (w.heap.size+1+1+1) 3 (.int .i64 r.beg)):=by
  have h:=Boxed.new (((w.alloc (.cells #[.slice Aq p.q.length cq,.slice (some ⟨b,off,none⟩) p.c.length cc] 25)).alloc (.cells (ctA r) 104)).alloc (.cells #[.slice none 0 0] 136)) 3 (.int .i64 r.beg);rw[World.size_alloc,World.size_alloc,World.size_alloc] at h;exact h
 have HSZ:Hid (((((w.alloc (.cells #[.slice Aq p.q.length cq,.slice (some ⟨b,off,none⟩) p.c.length cc] 25)).alloc (.cells (ctA r) 104)).alloc (.cells #[.slice none 0 0] 136)).alloc (.cells #[.int .i64 r.beg] 3)).heap.size=w.heap.size+4):=by show _=_; simp
 generalize (((w.alloc (.cells #[.slice Aq p.q.length cq,.slice (some ⟨b,off,none⟩) p.c.length cc] 25)).alloc (.cells (ctA r) 104)).alloc (.cells #[.slice none 0 0] 136)).alloc (.cells #[.int .i64 r.beg] 3)=W at HBW HC HO HA HSZ ⊢;refine (Xsa B cb l k W (HL.out.below HBW.out) HLN.out).mono ?_;rintro e w1 ⟨A1,k1,rfl,hs1,hc1,hbk,hb1⟩;have hbl:(Xb3 l k).length≤100000:=Nat.le_trans (Xhv _ _) HLN.out;have HF:Hid (Xg5 r (Xb3 l k) r.beg=(Xbo r.beg (Xb3 l k)).1 ++ gapL (Xbo r.beg (Xb3 l k)).2 r.fin):=by
  show _=_;unfold Xg5;rw[show max r.beg r.beg=r.beg by omega]
 generalize hL:Xb3 l k=L at hs1 hc1 hbl HF ⊢;have HLE:=Lib.hid hL;clear hL;have HC1:Hid (Bk w1 (w.heap.size+1) 104 (ctA r)):=HC.out.below hb1 HC.out.lt;have HO1:Hid (Boxed w1 (w.heap.size+1+1) 136 (.slice none 0 0)):=(hb1.block _ HO.out.lt).trans HO.out;have HA1:Hid (Boxed w1 (w.heap.size+1+1+1) 3 (.int .i64 r.beg)):=(hb1.block _ HA.out.lt).trans HA.out;have HB1:Hid (Below w.heap.size w w1):=Xa HBW.out hb1;have HZ1:Hid (w.heap.size+4≤w1.heap.size ∧ ∀a,A1=some a→w.heap.size+4≤a.block∧a.block<w1.heap.size∨L.length=0):=by
  have h1:=hb1.size;have h2:=HSZ.out;refine ⟨by omega,fun a ha=>?_⟩
  by_cases h0:L.length=0
  ·exact .inr h0
  ·obtain ⟨b',off',hA,hr⟩:=hs1.one (by omega)
   rw[ha] at hA;cases hA;have:=hbk _ ha;refine .inl ⟨by omega,?_⟩
   exact World.block_lt_of_cell? _ _ (hr 0 L[0] (List.getElem?_eq_getElem (by omega)) 0 _ rfl)
 have HS1:=Lib.hid hs1;clear hs1 hbk hb1 HBW HC HO HA HSZ HL HLN hc1;go_wp2;go_loopw [29] (fun i wr=>Xr8 (w.heap.size+1+1) (w.heap.size+1+1+1) w1.heap.size r.beg L w w1 i wr) (fun i _=>L.length - (intOf i).toNat)
 case atStart=>exact ⟨0,Nat.zero_le _,rfl,HB1.out,Nat.le_refl _,fun _ _ _ _=>rfl,HA1.out,_,HO1.out,rfl,.inl ⟨rfl,rfl⟩⟩
 case round =>
  obtain ⟨j,hj,rfl,hb,hsz,hkeep,hba,v,hbo,hrow⟩:=hrel;have HB:=Lib.hid hb;have HK:=Lib.hid hkeep;have HBA:=Lib.hid hba;have HBO:=Lib.hid hbo;have HRW:=Lib.hid hrow;have HCW:Hid (Bk wr (w.heap.size+1) 104 (ctA r)):=Xch HC1.out (hkeep _ HC1.out.lt (by omega) (by omega))
  have HLM:Hid ((Xbo r.beg (L.take j)).1.length≤100000):=by
   show _≤_;have h1:=Xhm r.beg (L.take j);have h2:(L.take j).length≤L.length:=by rw[List.length_take]; omega
   omega
  clear hb hkeep hba hbo hrow
  by_cases hlt:j<L.length
  ·obtain ⟨b1,off1,rfl,hr⟩:=HS1.out.one (by omega)
   obtain ⟨x,hrk⟩:∃x,L[j]? = some x:=⟨_,List.getElem?_eq_getElem hlt⟩;have hbl1:w.heap.size+4≤b1∧b1<w1.heap.size:=by
    rcases HZ1.out.2 _ rfl with h | h
    ·exact h
    ·omega
   have hrg:wr.rangeAt b1 (off1+j * 2) (spE.f x):=Xih (HK.out b1 hbl1.2 (by omega) (by omega)) (hr j x hrk)
   have c0:=Tp.rgSp hrg;have HSN:Hid (Xbo r.beg (L.take (j+1))=((Xbo r.beg (L.take j)).1 ++ gapL (Xbo r.beg (L.take j)).2 x.frm,max (Xbo r.beg (L.take j)).2 x.til)):=by
    show _=_;rw[take_snoc hrk]; exact Xip _ _ _
   generalize (Xbo r.beg (L.take j)).1=M at HRW HSN HLM;generalize (Xbo r.beg (L.take j)).2=a at HBA HSN;clear hr hrk hrg hbl1;have HN1:Hid (Bk (wr.alloc (.cells #[.int .i64 x.frm,.int .i64 x.til] 142)) wr.heap.size 142 #[.int .i64 x.frm,.int .i64 x.til]):=Bk.new _ _ _;have HVB:Hid (v.ownBlock ≠ some wr.heap.size∧v.ownBlock ≠ some (w.heap.size+1) ∧ ∀q,q<w1.heap.size→v.ownBlock ≠ some q):=by
    refine ⟨fun e=>?_,fun e=>?_,fun q hq e=>?_⟩
    ·have:=(HRW.out.lt _ e).2; omega
    ·have:=(HRW.out.lt _ e).1;have:=HZ1.out.1;omega
    ·have:=(HRW.out.lt _ e).1; omega
   go_wp2_with fail;refine (add_any (w.heap.size+1+1+1) (w.heap.size+1+1) w1.heap.size M a x.frm v (wr.alloc (.cells #[.int .i64 x.frm,.int .i64 x.til] 142)) (HBA.out.alloc _) (HBO.out.alloc _) (HRW.out.alloc _) (by simp; omega) HLM.out).mono ?_
   rintro e w4 ⟨rfl,v',y1,y2,y3,y4,y5,y6⟩;have z1:Hid (w.heap.size+4≤w1.heap.size):=HZ1.out.1;have HBN:Hid (Below w.heap.size w w4):=(HB.out.alloc HB.out.size _).trans (y6 w.heap.size (by have:=z1.out; omega) (by omega))
   have HXN:Hid (Bk w4 wr.heap.size 142 #[.int .i64 x.frm,.int .i64 x.til]):=Xch HN1.out (y5 _ (by simp) (by have:=HBO.out.lt; omega) HVB.out.1)
   have HCN:Hid (Bk w4 (w.heap.size+1) 104 (ctA r)):=Xch (HCW.out.alloc _) (y5 _ (by have:=HCW.out.lt; simp; omega) (by omega) HVB.out.2.1)
   have HSZ4:Hid (wr.heap.size+1≤w4.heap.size):=by show _≤_; simpa using y4
   have HK4:Hid (∀q,q<w1.heap.size→q ≠ w.heap.size+1+1→q ≠ w.heap.size+1+1+1→w4.heap[q]? = w1.heap[q]?):=fun q hq h2 h3 =>
    (y5 q (by simp; omega) h2 (HVB.out.2.2 q hq)).trans ((Below.heap_alloc wr _ q (by omega)).trans (HK.out q hq h2 h3))
   have HY1:=Lib.hid y1;have HY2:=Lib.hid y2;have HY3:=Lib.hid y3;have d0:w4.cell? ⟨w.heap.size+1+1+1,0,none⟩=some (.int .i64 a):=HY1.out.cell;have d1:=HXN.out.n1;have d2:w4.frozen? ⟨w.heap.size+1+1+1,0,none⟩=false:=HY1.out.frozen;clear c0 y1 y2 y3 y4 y5 y6 HB HBA HBO HRW HCW HK HN1;have fin:∀m:Int,m=max a x.til→Xr8 (w.heap.size+1+1) (w.heap.size+1+1+1) w1.heap.size r.beg L w w1 (.int .i64 (↑j+1)) (w4.setCell ⟨w.heap.size+1+1+1,0,none⟩ (.int .i64 m)):=by
    rintro m rfl;have hne:w.heap.size+1+1 ≠ w.heap.size+1+1+1:=by omega
    refine ⟨j+1,by omega,by go_num,HBN.out.setCell (p:=⟨w.heap.size+1+1+1,0,none⟩) (by show w.heap.size≤w.heap.size+1+1+1; omega) _,?_,fun q hq h2 h3=>?_,?_,v',?_,?_⟩
    ·have:=HSZ4.out; simp[World.setCell]; omega
    ·exact (Below.heap_setCell w4 ⟨w.heap.size+1+1+1,0,none⟩ _ q h3).trans (HK4.out q hq h2 h3)
    ·rw[HSN.out]; exact HY1.out.set _
    ·exact HY2.out.kept (grownBy_setCell' w4 (w.heap.size+1+1+1) _) (fun e=>hne (Option.some.inj e))
    ·rw[HSN.out];refine HY3.out.kept (grownBy_setCell' w4 (w.heap.size+1+1+1) _) (.inr (fun e=>?_));have h1:=(HY3.out.lt _ e).1;have h2:=z1.out;omega
   have FIN:=Lib.hid fin;clear fin HSN HVB HLM hm
   by_cases hmx:a<x.til
   ·go_wp2;go_roundw
    case rel=>exact FIN.out _ (by omega)
    case measure=>simp[intOf]; omega
   ·go_wp2;go_roundw
    case rel=>exact FIN.out _ (by omega)
    case measure=>simp[intOf]; omega
  ·have HT:Hid ((Xbo r.beg (L.take j))=Xbo r.beg L):=by show _=_; rw[List.take_of_length_le (by omega)]
   rw[HT.out] at HBA HRW HLM;have d3:=HCW.out.n3;generalize (Xbo r.beg L).1=M at HRW HLM HF HT;generalize (Xbo r.beg L).2=a at HBA HF HT;clear HT HS1 HK HC1 HO1 HA1;go_wp2_with fail;refine (add_any (w.heap.size+1+1+1) (w.heap.size+1+1) w1.heap.size M a r.fin v wr HBA.out HBO.out HRW.out hsz HLM.out).mono ?_;rintro e w4 ⟨rfl,v',y1,y2,y3,y4,y5,y6⟩;have z1:Hid (w.heap.size+4≤w1.heap.size):=HZ1.out.1;have HBN:Hid (Below w.heap.size w w4):=HB.out.trans (y6 w.heap.size (by have:=z1.out; omega) (by omega))
   rw[show M ++ gapL a r.fin=Xg5 r L r.beg from HF.out.symm] at y3;obtain ⟨A5,k5,rfl,x1,x2,x3⟩:=Xab (E:=spE) y3;have d0:w4.cell? ⟨w.heap.size+1+1,0,none⟩=some (.slice A5 (Xg5 r L r.beg).length k5):=y2.cell;have HX1:=Lib.hid x1;have HX3:Hid (∀a,A5=some a→w.heap.size≤a.block):=fun a ha=>by have:=x3 a ha; have:=z1.out; omega
   clear x1 x3 y1 y2 y3 y4 y5 y6 HB HBA HBO HRW HCW HLM HF d3;go_wp2;go_ret;show Xcz spE (Xg5 r (Xb3 l k) r.beg) w _ _;rw[HLE.out];exact ⟨A5,k5,rfl,HX1.out,x2,HX3.out,HBN.out⟩
theorem Xs3 (Aq:Option Addr)(cq:Nat)(C:Option Addr)(cc:Nat)(p:Pln)(B:Option Addr)(cb:Nat)(l:List Bkg)(k:Nat)(r:Ct)(w:World)(hp:Xas w Aq cq C cc p)(hl:SlAt bkE w B l)(hlm:l.length≤100000)(hok:Xbe p∧Xk9 p l)(hr:p.c[k]? = some r) :
  Calls Tryz.prog 62 #[.agg (plA Aq cq C cc p),.slice B l.length cb,.int .i64 k] w (Xt5 spE (Xg5 r (Xb3 l k) r.beg) 0 w):=by
 have hk:k<p.c.length:=(List.getElem?_eq_some_iff.1 hr).1;have HB0:Hid (Below w.heap.size w (w.alloc (.cells (plA Aq cq C cc p) 25))):=(Below.refl _ _).alloc (Nat.le_refl _) _;have HK:=Lib.hid (Bk.new w 25 (plA Aq cq C cc p));have HCK:=Lib.hid (fun w hp hl=>Xse Aq cq C cc p B cb l k w hp hl (by unfold maxLen; omega) hok hk)
 have HFR:=Lib.hid (fun w hp hl=>Xs4 Aq cq C cc p B cb l k r w hp hl hlm hr);have HP:=Lib.hid hp;have HL:=Lib.hid hl;have HR:=Lib.hid hr;have hm:=hp.cm;clear hp hl hok hr;unfold maxLen at hm;have hge:(0:Int)≤(k:Int):=by omega
 have hlt:(k:Int)<(p.c.length:Int):=by omega
 go_enter Tryz.func62,Tryz.ntmps62;go_wp2_with fail;generalize w.alloc (.cells (plA Aq cq C cc p) 25)=W at HB0 HK ⊢;generalize w.heap.size=g0 at HK ⊢;refine (HCK.out _ (HP.out.below HB0.out) (HL.out.below HB0.out)).mono ?_;rintro e w1 ⟨rfl,hb1⟩;have HB1:=Lib.hid (Xa HB0.out hb1);have HK1:=Lib.hid (HK.out.below hb1 HK.out.lt);have HP1:=Lib.hid (HP.out.below HB1.out);have HL1:=Lib.hid (HL.out.below HB1.out);obtain ⟨b,off,rfl,hrr⟩:=HP1.out.c.one (by omega)
 have HXG:Hid (w1.rangeAt b (off+k * 7) (ctE.f r)):=hrr k r HR.out;have HD:Hid (∀w',Below w1.heap.size w1 w' → (w'.cell? ⟨g0,0,none⟩=some (.slice Aq p.q.length cq)∧w'.cell? ⟨g0,1,none⟩=some (.slice (some ⟨b,off,none⟩) p.c.length cc))∧w'.cell? ⟨b,off+k * 7+2,none⟩=some (.int .i64 r.beg)):=fun w' hb' => by
  have h2:=HK1.out.below hb' HK1.out.lt;have h5:=Xa3 HXG.out hb';exact ⟨⟨h2.cell 0,h2.cell 1⟩,h5 2 _ rfl⟩
 have HPW:Hid (∀w',Below w1.heap.size w1 w' → Xas w' Aq cq (some ⟨b,off,none⟩) cc p):=fun w' hb' => HP1.out.below hb';have HLW:Hid (∀w',Below w1.heap.size w1 w' → SlAt bkE w' B l):=fun w' hb' => HL1.out.below hb';clear hb1 HB0 HK HCK hrr HP HL;go_wp2_with fail;go_region_held3 (fun w' => ((w'.cell? ⟨g0,0,none⟩=some (.slice Aq p.q.length cq)∧w'.cell? ⟨g0,1,none⟩=some (.slice (some ⟨b,off,none⟩) p.c.length cc))∧w'.cell? ⟨b,off+k * 7+2,none⟩=some (.int .i64 r.beg))∧Hid (Below w1.heap.size w1 w')) (((try go_split_ands); first | exact Xa7 HD (Below.refl _ _).drew | exact Xaw HD (by assumption) hb4))
  ((go_at_call 135
    refine (HFR.out _ (HPW.out _ (Hid.out (by (try go_split_ands); assumption))) (HLW.out _ (Hid.out (by (try go_split_ands); assumption)))).mono ?_
    rintro e w4 ⟨A4,k4,rfl,hs4,hc4,hbk4,hb4⟩))
 have HBF:Hid (Below w1.heap.size w1 w4):=by (try go_split_ands); assumption
 have HS4:=Lib.hid hs4;have HK4:Hid (∀a,A4=some a→w.heap.size≤a.block):=fun a ha=>Nat.le_trans HB1.out.size (hbk4 a ha);clear hs4 hbk4 hb4 HD HPW HLW HFR;go_wp2;go_ret2;exact ⟨A4,k4,rfl,HS4.out,hc4,HK4.out,Xa HB1.out HBF.out⟩
theorem Xsy:(Tryz.prog.info? 99).map (fun i=>(i.zero,i.size,i.bytes))=some (some (.agg #[.int .i64 0,.int .i64 0,.int .i64 0,.int .i64 0,.int .i64 0]),5,40):=by kernel_rfl
end Go.Proofs.YtebkgbmijocdjaaGreat.Tp
