/- A part of the proof for the ledger. No condition beyond those that each theorem states. -/
import Derived.Deep.Cut
import Derived.RangeFuncNested
import Derived.RangeFuncBound
import Derived.RangeFuncCalls
import Derived.RangeFuncLeaves
import Derived.Shelf.Abstract
import Derived.Shelf.RegionOpen
import Derived.OwnWalkIn
import Derived.TacticsInMore
import Derived.LoopNIn
import Derived.LoopIn
import Derived.Sort.CutIn
import Derived.BigRegionIn
import Derived.Test.YtebkgbmijocdjaaGreatZ01
set_option maxHeartbeats 32000000
set_option maxRecDepth 100000
set_option linter.unusedVariables false
set_option linter.unusedSimpArgs false
namespace Go.Proofs.YtebkgbmijocdjaaGreat.Tp
open Go Go.RowKit
theorem Xem (z:Int)(w:World) :
  Calls Tryz.prog 47 #[.int .i64 z] w fun e w' => e = .returned (.tuple #[.agg #[.slice none 0 0,.slice none 0 0,.slice none 0 0,.slice none 0 0],.agg #[.bool false,.int .i64 0,.slice none 0 0,.slice none 0 0,.slice none 0 0],.int .i64 z])∧Below w.heap.size w w':=by
 obtain ⟨W,n0,hW,hn,HSZ,HB,HK0,HK1⟩:=box2 w 53 #[.slice none 0 0,.slice none 0 0,.slice none 0 0,.slice none 0 0] 59 #[.bool false,.int .i64 0,.slice none 0 0,.slice none 0 0,.slice none 0 0];have r0:=HK0.out.c4;have f0:=HK0.out.f4;obtain ⟨X,hX,hx,hg⟩:=HK0.out.p4 (.slice none 0 0) (.slice none 0 0) (.slice none 0 0) (.slice none 0 0);have HK2:=Lib.hid (HK1.out.grown hg (by simp))
 have s0:=HK2.out.c5;have e0:=HK2.out.f5;obtain ⟨Y,hY,hy,hg2⟩:=HK2.out.p5 (.bool false) (.int .i64 0) (.slice none 0 0) (.slice none 0 0) (.slice none 0 0);have HX:=Lib.hid (hx.grown hg2 (by simp))
 have HBE:Hid (Below n0 w Y):=below_grown (below_grown HB.out hg (by omega) (by have:=HSZ.out; omega)) hg2 (by omega) (by have:=hg.size; have:=HSZ.out; omega)
 have p0:=HX.out.c4;have q0:=hy.c5;clear hx hy hg hg2;go_enter Tryz.func47,Tryz.ntmps47;go_wp2_with fail;exact bodyPost_ret (v:=.tuple #[.agg #[.slice none 0 0,.slice none 0 0,.slice none 0 0,.slice none 0 0],.agg #[.bool false,.int .i64 0,.slice none 0 0,.slice none 0 0,.slice none 0 0],.int .i64 z]) (by simp[results,Tryz.results47,go_sem,p0,q0]) rfl ⟨rfl,by rw[hn]; exact HBE.out⟩
def wi (n lo hi:Int):Bool:=decide (lo≤n) && decide (n≤hi)
theorem Xkc {n lo hi:Int}:wi n lo hi=true↔lo≤n∧n≤hi:=by simp[wi]
theorem Xsm {n lo hi:Int}:wi n lo hi=false ↔ ¬ (lo≤n∧n≤hi):=by rw[←Xkc]; simp
theorem Xcn (n lo hi:Int)(w:World):Calls Tryz.prog 156 #[.int .i64 n,.int .i64 lo,.int .i64 hi] w fun e w' => e = .returned (.bool (wi n lo hi))∧w=w':=by
 by_cases h1:lo≤n
 ·by_cases h2:n≤hi
  ·go_enter Tryz.func156,Tryz.ntmps156;go_wp2;go_ret;exact ⟨Xe0 (by rw[Xkc.2 ⟨h1,h2⟩]),rfl⟩
  ·go_enter Tryz.func156,Tryz.ntmps156;go_wp2;go_ret;exact ⟨Xe0 (by rw[Xsm.2 (fun h=>by omega)]),rfl⟩
 ·have d:decide (n ≥ lo)=false:=by simpa using h1
  go_enter Tryz.func156,Tryz.ntmps156;go_wp2;go_ret;exact ⟨Xe0 (by rw[Xsm.2 (fun h=>by omega)]),rfl⟩
theorem Xdr (c:Ct)(w:World):Calls Tryz.prog 103 #[.agg #[.int .i64 c.src,.int .i64 c.dst,.int .i64 c.beg,.int .i64 c.fin,.int .i64 c.rate,.int .i64 c.rng,.int .i64 c.loss]] w (Xd (CtOK c) w):=by
 have HO:Hid (CtOK c↔(wi c.src 0 15=true∧wi c.dst 0 15=true∧wi c.rate 1 1000=true∧wi c.rng 1 1048576=true∧wi c.loss 0 16=true)∧c.src ≠ c.dst∧0≤c.beg∧c.beg<c.fin∧c.fin≤1099511627776 - 2 * c.rng):=by
  show _↔_;simp only[Xkc,CtOK,and_assoc]
 have HR:Hid (wi c.rng 1 1048576=true→1≤c.rng∧c.rng≤1048576):=fun h=>Xkc.1 h;have W1:=Lib.hid (fun w=>Xcn c.src 0 15 w);have W2:=Lib.hid (fun w=>Xcn c.dst 0 15 w);have W3:=Lib.hid (fun w=>Xcn c.rate 1 1000 w);have W4:=Lib.hid (fun w=>Xcn c.rng 1 1048576 w);have W5:=Lib.hid (fun w=>Xcn c.loss 0 16 w);generalize wi c.src 0 15=b1 at HO W1;generalize wi c.dst 0 15=b2 at HO W2;generalize wi c.rate 1 1000=b3 at HO W3;generalize wi c.rng 1 1048576=b4 at HO HR W4;generalize wi c.loss 0 16=b5 at HO W5;obtain ⟨a1,a2,a3,a4,a5,a6,a7⟩:=c;simp only at HO HR W1 W2 W3 W4 W5 ⊢;have HB:Hid (Below w.heap.size w (w.alloc (.cells #[.int .i64 a1,.int .i64 a2,.int .i64 a3,.int .i64 a4,.int .i64 a5,.int .i64 a6,.int .i64 a7] 104))):=(Below.refl _ _).alloc (Nat.le_refl _) _;cases b1 with
 | false =>
   go_enter Tryz.func103,Tryz.ntmps103;go_wp2_with fail;refine (W1.out _).mono ?_;rintro e w1 ⟨rfl,rfl⟩;go_wp2;go_ret;exact Xa2 (by decide) (fun h=>by have:=(HO.out.1 h).1.1; cases this) HB.out
 | true =>
   cases b2 with
   | false =>
     go_enter Tryz.func103,Tryz.ntmps103;go_wp2_with fail;refine (W1.out _).mono ?_;rintro e w1 ⟨rfl,rfl⟩;go_wp2_with fail;refine (W2.out _).mono ?_;rintro e w2 ⟨rfl,rfl⟩;go_wp2;go_ret;exact Xa2 (by decide) (fun h=>by have:=(HO.out.1 h).1.2.1; cases this) HB.out
   | true =>
     cases b3 with
     | false =>
       go_enter Tryz.func103,Tryz.ntmps103;go_wp2_with fail;refine (W1.out _).mono ?_;rintro e w1 ⟨rfl,rfl⟩;go_wp2_with fail;refine (W2.out _).mono ?_;rintro e w2 ⟨rfl,rfl⟩;go_wp2_with fail;refine (W3.out _).mono ?_;rintro e w3 ⟨rfl,rfl⟩;go_wp2;go_ret;exact Xa2 (by decide) (fun h=>by have:=(HO.out.1 h).1.2.2.1; cases this) HB.out
     | true =>
       cases b4 with
       | false =>
         go_enter Tryz.func103,Tryz.ntmps103;go_wp2_with fail;refine (W1.out _).mono ?_;rintro e w1 ⟨rfl,rfl⟩;go_wp2_with fail;refine (W2.out _).mono ?_;rintro e w2 ⟨rfl,rfl⟩;go_wp2_with fail;refine (W3.out _).mono ?_;rintro e w3 ⟨rfl,rfl⟩;go_wp2_with fail;refine (W4.out _).mono ?_;rintro e w4 ⟨rfl,rfl⟩;go_wp2;go_ret;exact Xa2 (by decide) (fun h=>by have:=(HO.out.1 h).1.2.2.2.1; cases this) HB.out
       | true =>
         cases b5 with
         | false =>
           go_enter Tryz.func103,Tryz.ntmps103;go_wp2_with fail;refine (W1.out _).mono ?_;rintro e w1 ⟨rfl,rfl⟩;go_wp2_with fail;refine (W2.out _).mono ?_;rintro e w2 ⟨rfl,rfl⟩;go_wp2_with fail;refine (W3.out _).mono ?_;rintro e w3 ⟨rfl,rfl⟩;go_wp2_with fail;refine (W4.out _).mono ?_;rintro e w4 ⟨rfl,rfl⟩;go_wp2_with fail;refine (W5.out _).mono ?_;rintro e w5 ⟨rfl,rfl⟩;go_wp2;go_ret;exact Xa2 (by decide) (fun h=>by have:=(HO.out.1 h).1.2.2.2.2; cases this) HB.out
         | true =>
           obtain ⟨r1,r2⟩:=HR.out rfl
           by_cases h1:a1=a2
           ·have HN:Hid (a1=a2):=h1;have hb:(a1 == a2)=true:=by simpa using h1
            clear h1;go_enter Tryz.func103,Tryz.ntmps103;go_wp2_with fail;refine (W1.out _).mono ?_;rintro e w1 ⟨rfl,rfl⟩;go_wp2_with fail;refine (W2.out _).mono ?_;rintro e w2 ⟨rfl,rfl⟩;go_wp2_with fail;refine (W3.out _).mono ?_;rintro e w3 ⟨rfl,rfl⟩;go_wp2_with fail;refine (W4.out _).mono ?_;rintro e w4 ⟨rfl,rfl⟩;go_wp2_with fail;refine (W5.out _).mono ?_;rintro e w5 ⟨rfl,rfl⟩;go_wp2;go_ret;exact Xa2 (by decide) (fun h=>(HO.out.1 h).2.1 HN.out) HB.out
           ·have HN:Hid (¬ a1=a2):=h1;have hb:(a1 == a2)=false:=by simpa using h1
            clear h1
            by_cases h2:a3<0
            ·go_enter Tryz.func103,Tryz.ntmps103;go_wp2_with fail;refine (W1.out _).mono ?_;rintro e w1 ⟨rfl,rfl⟩;go_wp2_with fail;refine (W2.out _).mono ?_;rintro e w2 ⟨rfl,rfl⟩;go_wp2_with fail;refine (W3.out _).mono ?_;rintro e w3 ⟨rfl,rfl⟩;go_wp2_with fail;refine (W4.out _).mono ?_;rintro e w4 ⟨rfl,rfl⟩;go_wp2_with fail;refine (W5.out _).mono ?_;rintro e w5 ⟨rfl,rfl⟩;go_wp2;go_ret;exact Xa2 (by decide) (fun h=>by have:=(HO.out.1 h).2.2.1; omega) HB.out
            ·have d2:decide (a3<0)=false:=by simpa using h2
             by_cases h3:a4≤a3
             ·have d3:decide (a3 ≥ a4)=true:=by simpa using h3
              go_enter Tryz.func103,Tryz.ntmps103;go_wp2_with fail;refine (W1.out _).mono ?_;rintro e w1 ⟨rfl,rfl⟩;go_wp2_with fail;refine (W2.out _).mono ?_;rintro e w2 ⟨rfl,rfl⟩;go_wp2_with fail;refine (W3.out _).mono ?_;rintro e w3 ⟨rfl,rfl⟩;go_wp2_with fail;refine (W4.out _).mono ?_;rintro e w4 ⟨rfl,rfl⟩;go_wp2_with fail;refine (W5.out _).mono ?_;rintro e w5 ⟨rfl,rfl⟩;go_wp2;go_ret;exact Xa2 (by decide) (fun h=>by have:=(HO.out.1 h).2.2.2.1; omega) HB.out
             ·have d3:decide (a3 ≥ a4)=false:=by simpa using h3
              by_cases h4:1099511627776 - 2 * a6<a4
              ·go_enter Tryz.func103,Tryz.ntmps103;go_wp2_with fail;refine (W1.out _).mono ?_;rintro e w1 ⟨rfl,rfl⟩;go_wp2_with fail;refine (W2.out _).mono ?_;rintro e w2 ⟨rfl,rfl⟩;go_wp2_with fail;refine (W3.out _).mono ?_;rintro e w3 ⟨rfl,rfl⟩;go_wp2_with fail;refine (W4.out _).mono ?_;rintro e w4 ⟨rfl,rfl⟩;go_wp2_with fail;refine (W5.out _).mono ?_;rintro e w5 ⟨rfl,rfl⟩;go_wp2;go_ret;exact Xa2 (by decide) (fun h=>by have:=(HO.out.1 h).2.2.2.2; omega) HB.out
              ·go_enter Tryz.func103,Tryz.ntmps103;go_wp2_with fail;refine (W1.out _).mono ?_;rintro e w1 ⟨rfl,rfl⟩;go_wp2_with fail;refine (W2.out _).mono ?_;rintro e w2 ⟨rfl,rfl⟩;go_wp2_with fail;refine (W3.out _).mono ?_;rintro e w3 ⟨rfl,rfl⟩;go_wp2_with fail;refine (W4.out _).mono ?_;rintro e w4 ⟨rfl,rfl⟩;go_wp2_with fail;refine (W5.out _).mono ?_;rintro e w5 ⟨rfl,rfl⟩;go_wp2;go_ret;exact Xbf (HO.out.2 ⟨⟨by trivial,by trivial,by trivial,by trivial,by trivial⟩,HN.out,by omega,by omega,by omega⟩) HB.out
theorem Xkg (c:Ct)(n:Int)(w:World)(h1:1≤c.rate)(h2:c.rate≤1000)(h3:1≤n)(h4:n≤16):Calls Tryz.prog 171 #[.agg #[.int .i64 c.src,.int .i64 c.dst,.int .i64 c.beg,.int .i64 c.fin,.int .i64 c.rate,.int .i64 c.rng,.int .i64 c.loss],.int .i64 n] w fun e w' => e = .returned (.int .i64 (Xdy c n))∧w' = w.alloc (.cells #[.int .i64 c.src,.int .i64 c.dst,.int .i64 c.beg,.int .i64 c.fin,.int .i64 c.rate,.int .i64 c.rng,.int .i64 c.loss] 104):=by
 have HT:Hid (Xdy c n=(n+8+c.rate - 1) / c.rate):=rfl;generalize Xdy c n=t at HT;obtain ⟨a1,a2,a3,a4,a5,a6,a7⟩:=c;simp only at HT h1 h2 ⊢;have h5:(a5 == 0)=false:=by rw[beq_eq_false_iff_ne]; omega
 go_enter Tryz.func171,Tryz.ntmps171;go_wp2;go_ret;exact ⟨Xh2 HT.out.symm,rfl⟩
end Go.Proofs.YtebkgbmijocdjaaGreat.Tp
namespace Go.Proofs.YtebkgbmijocdjaaGreat.Tp
open Go Go.RowKit Go.Shelf
attribute [local go_sem] Oper.semAt_some
def Xd9 (B:Nat)(W W':World):Prop:=∀o,W.heap[B]? = some o→o.isCells=true→W'.heap[B]? = some o
theorem Xd9.trans {B:Nat}{X Y Z:World}(h:Xd9 B X Y)(h':Xd9 B Y Z):Xd9 B X Z:=fun o ho hc=>h' o (h o ho hc) hc
theorem Xlp {B:Nat}{w:World}(W:World)(l:Nat)(o o':Obj) (_:w.heap.size≤l)(h:W.heap[l]? = some o)(hc:o.isCells=false) (_:o.isWalk=false):Xd9 B W (W.putObj l o'):=by
 intro x hx hxc
 by_cases e:B=l
 ·subst e; rw[h] at hx; cases hx; rw[hc] at hxc; cases hxc
 ·exact (World.putObj_heap_other e).trans hx
theorem Xa9 {β:Type}(B g:Nat)(t:TypeId)(cs:Array Value):OwnFrom B (fun (_:β) W=>Bk W g t cs):=by
 intro x W W' row h hg hr;refine Bk.grown h hg (fun e=>?_);obtain ⟨_,y,hy,hc⟩:=hr g e.symm;rw[show W.heap[g]? = some _ from h] at hy;cases hy; cases hc
theorem Xer {β:Type}(B o:Nat)(t:TypeId)(v:β → Value):OwnFrom B (fun (x:β) W=>Boxed W o t (v x)):=by
 intro x W W' row h hg hr;refine h.kept hg (fun e=>?_);obtain ⟨_,y,hy,hc⟩:=hr o e.symm;rw[show W.heap[o]? = some _ from h] at hy;cases hy; cases hc
abbrev Seg:={ x:Int // 1≤x∧x≤16 }
def segs:Nat→Int→List Seg
 | 0,_ => []
 | f+1,n=>if h:0<n then ⟨min n 16,by omega⟩ :: segs f (n - 16) else []
theorem Xpp {f:Nat}{n:Int}(h:¬ 0<n):segs f n = []:=by
 cases f with
 | zero=>rfl
 | succ f=>rw[segs,dif_neg h]
def sumT (c:Ct)(l:List Seg):Int:=(l.map fun x=>Xdy c x.1).sum
theorem Xij (c:Ct):∀(f:Nat)(n:Int),Xjc c f n=sumT c (segs f n)
 | 0,_=>rfl
 | f+1,n=>by
   unfold Xjc segs
   split
   ·rw[Xij c f (n - 16)]; rfl
   ·rfl
theorem sumT_snoc (c:Ct)(l:List Seg)(x:Seg):sumT c (l ++ [x])=sumT c l+Xdy c x.1:=by
 unfold sumT; rw[List.map_append,List.sum_append]; simp
theorem Xpf {c:Ct}(h1:1≤c.rate)(h2:c.rate≤1000):∀l:List Seg,0≤sumT c l∧sumT c l≤1023 * l.length
 | [] => by simp[sumT]
 | x :: l=>by
   have ih:=Xpf h1 h2 l;have hx:=Xee h1 h2 x.2.1 x.2.2;have e:sumT c (x :: l)=Xdy c x.1+sumT c l:=rfl;rw[e,List.length_cons];omega
theorem Xm7 (n:Nat)(m:Int)(w:World) :
  CallsIn Fence.wide n Tryz.prog 211 #[.int .i64 m] w fun e w' => e = .returned (.func (.func 229) #[] #[.pointer (some ⟨w.heap.size,0,none⟩)])∧w' = w.alloc (.cells #[.int .i64 m] 3):=by
 refine callsIn_of_wp Tryz.func211 rfl trivial ?_ rfl;simp only[Tryz.ntmps211,List.size_toArray,List.length_cons,List.length_nil,Nat.reduceAdd,Nat.reduceSub,Array.replicate_succ,Array.replicate_zero,List.push_toArray,List.append_toArray,List.nil_append,List.cons_append]
 gi_wp2
 go_ret;exact ⟨rfl,rfl⟩
theorem Xku (n:Nat)(hn:1≤n)(l Bn:Nat)(m:Int)(hm:1≤m∧m≤65536)(J Jx:List Seg→World→Prop)
  (hY:∀(pre:List Seg) (x:Seg) (W:World),J pre W→pre.length<4096→YieldAt Fence.wide (n - 1) Tryz.prog l #[.int .i64 x.1] W fun e W' =>
    (e = .returned (.bool true)∧J (pre ++ [x]) W' ∧ Xd9 Bn W W')∨(e = .returned (.bool false)∧Jx (pre ++ [x]) W'))
  (W:World) (hW:W.heap[Bn]? = some (.cells #[.int .i64 m] 3 (0,0))) (h0:J [] W) :
  CallsIn Fence.wide n Tryz.prog 229 #[.func (.yield l) #[] #[],.pointer (some ⟨Bn,0,none⟩)] W fun e W' => (∃v,e = .returned v) ∧
   ((∃xs,xs=segs 4096 m∧J xs W')∨(∃pre,True∧Jx pre W')):=by
 have hc0:W.cell? ⟨Bn,0,none⟩=some (.int .i64 m):=cell_of_one hW;have HJ0:=Lib.hid h0;have HW:=Lib.hid hW;have HM:=Lib.hid hm;clear h0 hW hm;refine callsIn_of_wp Tryz.func229 rfl trivial ?_ rfl;simp only[Tryz.ntmps229,List.size_toArray,List.length_cons,List.length_nil,Nat.reduceAdd,Nat.reduceSub,Array.replicate_succ,Array.replicate_zero,List.push_toArray,List.append_toArray,List.nil_append,List.cons_append]
 gi_wp2
 gi_loopw [3] (fun i wr => ∃(k:Nat) (r:Int) (pre:List Seg),k≤4096∧i = .int .i64 r∧r=m - 16 * k∧pre.length=k∧pre ++ segs (4096 - k) r=segs 4096 m∧J pre wr∧wr.heap[Bn]? = some (.cells #[.int .i64 m] 3 (0,0))) (fun i _=>(intOf i).toNat)
 case atStart=>exact ⟨0,m, [],by omega,rfl,by omega,rfl,rfl,HJ0.out,HW.out⟩
 case round =>
  clear hc0;obtain ⟨k,r,pre,hk,rfl,hr,hpl,hseg,hJ,hb⟩:=hrel;have HBn:=Lib.hid hb;have HR:=Lib.hid hr;have hr2:r≤65536:=by have:=HM.out; omega
  have hr3 : -16≤r∨r < -16:=by omega
  have HP:=Lib.hid hpl;clear hb hr hpl
  by_cases hlt:0<r
  ·have hk2:k<4096:=by have h1:=HM.out; have h2:=HR.out; omega
   by_cases h16:r≤16
   ·obtain ⟨fn,tmps,assign,body,hy,hR⟩:=hY pre ⟨r,by omega⟩ wr hJ (by rw[HP.out]; exact hk2)
    have HS:Hid ((pre ++ [⟨r,by omega⟩]) ++ segs (4096 - (k+1)) (r - 16)=segs 4096 m):=by
     show _=_;rw[←hseg];have e:4096 - k=(4096 - (k+1))+1:=by omega
     rw[e,segs,dif_pos hlt];simp[show min r 16=r by omega]
    clear hJ hseg hr3
    gi_wp2_with fail
    refine hR.mono ?_;rintro e W3 (⟨rfl,hJ3,hk3⟩ | ⟨rfl,hJx3⟩)
    ·have b1:=hk3 _ HBn.out rfl;have HB1:=Lib.hid b1;have HJ3:=Lib.hid hJ3;clear b1 hJ3 hk3 hy hR
     gi_wp2
     go_roundw
     case rel=>exact ⟨k+1,r - 16,_,by omega,rfl,by have:=HR.out; omega,by rw[List.length_append,HP.out]; rfl,HS.out,HJ3.out,HB1.out⟩
     case measure=>simp[intOf]; omega
    ·gi_wp2
     refine bodyPost_ret (results_none rfl _ _ _) rfl ?_;exact ⟨⟨_,rfl⟩,.inr ⟨_,trivial,hJx3⟩⟩
   ·obtain ⟨fn,tmps,assign,body,hy,hR⟩:=hY pre ⟨16,by omega⟩ wr hJ (by rw[HP.out]; exact hk2)
    have HS:Hid ((pre ++ [⟨16,by omega⟩]) ++ segs (4096 - (k+1)) (r - 16)=segs 4096 m):=by
     show _=_;rw[←hseg];have e:4096 - k=(4096 - (k+1))+1:=by omega
     rw[e,segs,dif_pos hlt];simp[show min r 16=16 by omega]
    clear hJ hseg hr3
    gi_wp2_with fail
    refine hR.mono ?_;rintro e W3 (⟨rfl,hJ3,hk3⟩ | ⟨rfl,hJx3⟩)
    ·have b1:=hk3 _ HBn.out rfl;have HB1:=Lib.hid b1;have HJ3:=Lib.hid hJ3;clear b1 hJ3 hk3 hy hR
     gi_wp2
     go_roundw
     case rel=>exact ⟨k+1,r - 16,_,by omega,rfl,by have:=HR.out; omega,by rw[List.length_append,HP.out]; rfl,HS.out,HJ3.out,HB1.out⟩
     case measure=>simp[intOf]; omega
    ·gi_wp2
     refine bodyPost_ret (results_none rfl _ _ _) rfl ?_;exact ⟨⟨_,rfl⟩,.inr ⟨_,trivial,hJx3⟩⟩
  ·have HJ:Hid (J (segs 4096 m) wr):=by show J _ wr; rw[←hseg,Xpp hlt,List.append_nil]; exact hJ
   clear hJ hseg
   gi_wp2
   go_end0;exact ⟨⟨_,rfl⟩,.inl HJ.out⟩
theorem Xi3 (n:Nat)(hn:1≤n)(Bn:Nat)(m:Int)(hm:1≤m∧m≤65536)(w0:World)(hw:w0.heap[Bn]? = some (.cells #[.int .i64 m] 3 (0,0))) :
  SeqStopsK Fence.wide n Tryz.prog 229 #[.pointer (some ⟨Bn,0,none⟩)] (fun x:Seg => #[Value.int .i64 x.1]) (Xd9 Bn) (fun xs=>xs=segs 4096 m) (fun _=>True) 4096 w0:=by
 intro l J Jx W hW _ _ hY h0;exact Xku n hn l Bn m hm J Jx hY W ((hW.block Bn (Array.getElem?_eq_some_iff.1 hw).1).trans hw) h0
abbrev ctA (c:Ct):Array Value := #[.int .i64 c.src,.int .i64 c.dst,.int .i64 c.beg,.int .i64 c.fin,.int .i64 c.rate,.int .i64 c.rng,.int .i64 c.loss]
def Xn4 (w:World)(g o Bn:Nat)(c:Ct)(m:Int)(pre:List Seg)(W:World):Prop :=
 Bk W g 104 (ctA c)∧Boxed W o 3 (.int .i64 (sumT c pre))∧Boxed W Bn 3 (.int .i64 m)∧Below w.heap.size w W
theorem Xl6 (w:World)(g o Bn:Nat)(c:Ct)(m:Int)(B:Nat)(hB:w.heap.size≤B):OwnFrom B (Xn4 w g o Bn c m) :=
 (Xa9 B g 104 (ctA c)).and ((Xer B o 3 (fun pre:List Seg => .int .i64 (sumT c pre))).and ((Xer B Bn 3 (fun _:List Seg => .int .i64 m)).and (ownFrom_below (Nat.le_refl _) hB)))
theorem Xrj (c:Ct)(hc:CtOK c)(m:Int)(hm:1≤m∧m≤65536)(w:World) :
  Calls Tryz.prog 170 #[.agg #[.int .i64 c.src,.int .i64 c.dst,.int .i64 c.beg,.int .i64 c.fin,.int .i64 c.rate,.int .i64 c.rng,.int .i64 c.loss],.int .i64 m] w fun e w' => e = .returned (.int .i64 (pass c m))∧Below w.heap.size w w':=by
 have HR:Hid (1≤c.rate∧c.rate≤1000):=hc.2.2.1;have HM:=Lib.hid hm;clear hc hm;refine (callsIn_wide (n:=6)).1 ?_;refine callsIn_of_wp_marks Tryz.func170 rfl trivial ?_ rfl;simp only[Tryz.ntmps170,List.size_toArray,List.length_cons,List.length_nil,Nat.reduceAdd,Nat.reduceSub,Array.replicate_succ,Array.replicate_zero,List.push_toArray,List.append_toArray,List.nil_append,List.cons_append]
 gi_wp2_with fail
 refine ⟨trivial,?_⟩;refine (Xm7 _ m _).mono ?_;rintro e w2 ⟨rfl,rfl⟩
 gi_wp2_with fail
 have N1:Bk (((w.alloc (.cells (ctA c) 104)).alloc (.cells #[.int .i64 0] 3)).alloc (.cells #[.int .i64 m] 3)) w.heap.size 104 (ctA c):=((Bk.new w _ _).alloc _).alloc _;have N2:Boxed (((w.alloc (.cells (ctA c) 104)).alloc (.cells #[.int .i64 0] 3)).alloc (.cells #[.int .i64 m] 3)) (w.heap.size+1) 3 (.int .i64 (sumT c [])):=by
  have h:=(Bk.new (w.alloc (.cells (ctA c) 104)) 3 #[.int .i64 0]).alloc (.cells #[.int .i64 m] 3)
  rwa [World.size_alloc] at h
 have N3:Boxed (((w.alloc (.cells (ctA c) 104)).alloc (.cells #[.int .i64 0] 3)).alloc (.cells #[.int .i64 m] 3)) (w.heap.size+2) 3 (.int .i64 m):=by
  have h:=Bk.new ((w.alloc (.cells (ctA c) 104)).alloc (.cells #[.int .i64 0] 3)) 3 #[.int .i64 m]
  rwa [World.size_alloc,World.size_alloc] at h
 have N4:Below w.heap.size w (((w.alloc (.cells (ctA c) 104)).alloc (.cells #[.int .i64 0] 3)).alloc (.cells #[.int .i64 m] 3)) :=
  (((Below.refl _ _).alloc (Nat.le_refl _) _).alloc (by rw[World.size_alloc]; omega) _).alloc (by rw[World.size_alloc,World.size_alloc]; omega) _
 refine wpIn_rangeFunc_ownF rfl (by omega) (gf:=229) (lb := #[.pointer (some ⟨w.heap.size+2,0,none⟩)]) rfl trivial (enters_of Tryz.func229 (by kernel_rfl) rfl)
  (Xi3 _ (by omega) (w.heap.size+2) m HM.out _ N3) Xd9.trans Xlp (Below.refl _ _) (fun _=>rfl)
  (fun pre W=>Xn4 w w.heap.size (w.heap.size+1) (w.heap.size+2) c m pre W)
  (fun _ _ _=>False)
  (Xl6 w _ _ _ _ _ _ (by simp; omega))
  (fun _ _ _ _ _ h _ _=>h) ⟨N1,N2,N3,N4⟩ ?a1 ?assign ?body ?done ?stop
 case assign =>
  intro l x W K hK
  gi_wp2
  exact hK
 case body =>
  rintro l pre x W ⟨h1,h2,h3,h4⟩ hpl;clear N1 N2 N3 N4;have hcell:=h2.cell;have hfr:=h2.frozen;have g0:=h1.c7;have hsb:=Xpf HR.out.1 HR.out.2 pre;have htb:=Xee HR.out.1 HR.out.2 x.2.1 x.2.2;have hsn:=sumT_snoc c pre x;have HTK:=Lib.hid (fun w=>Xkg c x.1 w HR.out.1 HR.out.2 x.2.1 x.2.2);have hblk:=h2.lt;generalize sumT c pre=s0 at hcell hsb hsn h2;generalize Xdy c x.1=tk at htb hsn HTK;have hsw:IntKind.i64.wrap (s0+tk)=s0+tk:=IntWalk.i64_in _ (by omega)
  have HSN:=Lib.hid hsn;have hx1:Bk ((W.setCell ⟨w.heap.size+1,0,none⟩ (.int .i64 (s0+tk))).alloc (.cells (ctA c) 104)).drew w.heap.size 104 (ctA c):=(Bk.other h1 (p:=⟨w.heap.size+1,0,none⟩) (by show w.heap.size ≠ w.heap.size+1; omega) _).alloc _
  have hx2:Boxed ((W.setCell ⟨w.heap.size+1,0,none⟩ (.int .i64 (s0+tk))).alloc (.cells (ctA c) 104)).drew (w.heap.size+1) 3 (.int .i64 (sumT c (pre ++ [x]))):=by
   have h:Boxed ((W.setCell ⟨w.heap.size+1,0,none⟩ (.int .i64 (s0+tk))).alloc (.cells (ctA c) 104)) (w.heap.size+1) 3 (.int .i64 (s0+tk)):=(h2.set (.int .i64 (s0+tk))).alloc _;rw[HSN.out]; exact h
  have hx3:Boxed ((W.setCell ⟨w.heap.size+1,0,none⟩ (.int .i64 (s0+tk))).alloc (.cells (ctA c) 104)).drew (w.heap.size+2) 3 (.int .i64 m):=(Bk.other h3 (p:=⟨w.heap.size+1,0,none⟩) (by show w.heap.size+2 ≠ w.heap.size+1; omega) _).alloc _
  have hx4:Below w.heap.size w ((W.setCell ⟨w.heap.size+1,0,none⟩ (.int .i64 (s0+tk))).alloc (.cells (ctA c) 104)).drew:=((h4.setCell (p:=⟨w.heap.size+1,0,none⟩) (Nat.le_succ _) _).alloc (by have:=h1.lt; rw[World.size_setCell]; omega) _).drew
  have hx5:KeepsOthers W ((W.setCell ⟨w.heap.size+1,0,none⟩ (.int .i64 (s0+tk))).alloc (.cells (ctA c) 104)).drew:=((KeepsOthers.setCell _ _ _).trans (KeepsOthers.alloc _ _)).trans (KeepsOthers.drew _);have hx6:Xd9 (w.heap.size+2) W ((W.setCell ⟨w.heap.size+1,0,none⟩ (.int .i64 (s0+tk))).alloc (.cells (ctA c) 104)).drew:=by
   intro y hy _;rw[show W.heap[w.heap.size+2]? = some _ from h3] at hy;cases hy;exact hx3
  have HX:=Lib.hid (⟨hx5,hx6,hx1,hx2,hx3,hx4⟩:KeepsOthers W ((W.setCell ⟨w.heap.size+1,0,none⟩ (.int .i64 (s0+tk))).alloc (.cells (ctA c) 104)).drew∧Xd9 (w.heap.size+2) W ((W.setCell ⟨w.heap.size+1,0,none⟩ (.int .i64 (s0+tk))).alloc (.cells (ctA c) 104)).drew∧Xn4 w w.heap.size (w.heap.size+1) (w.heap.size+2) c m (pre ++ [x]) ((W.setCell ⟨w.heap.size+1,0,none⟩ (.int .i64 (s0+tk))).alloc (.cells (ctA c) 104)).drew);clear hsn h1 h2 h3 h4 hx1 hx2 hx3 hx4 hx5 hx6 HSN
  gi_wp2_with fail
  gi_region_with (refine ⟨trivial,?_⟩; refine (callsIn_wide.2 (HTK.out _)).mono ?_; rintro e w2 ⟨rfl,rfl⟩)
  all_goals exact HX.out
 case done =>
  rintro D xs W hD rfl ⟨h1,h2,h3,h4⟩ hK;have hps:sumT c (segs 4096 m)=pass c m:=(Xij c 4096 m).symm;rw[hps] at h2;have hcell:=h2.cell;have HK:=Lib.hid hK;clear hps;have HD:=Lib.hid hD;have H4:=Lib.hid h4;clear N1 N2 N3 N4 hK hD h1 h2 h3 h4
  gi_wp2
  refine ⟨by simp,.inl ⟨_,_,rfl,run_takeDeferred HK.out,?_⟩⟩
  refine ⟨.int .i64 (pass c m),(by simp[results,Tryz.results170,go_sem]),rfl,?_⟩
  exact H4.out.trans (belowK_b (w:=w) (Nat.le_refl _) W D _ _ (by have:=HD.out; simp at this; omega) HK.out rfl rfl)
 case stop =>
  intro D c pre W _ _ h _;exact h.elim
end Go.Proofs.YtebkgbmijocdjaaGreat.Tp
