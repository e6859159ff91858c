/- A part of the proof for the ledger. No condition beyond those that each theorem states. -/
import Derived.Maps.OwnSet
import Derived.Shelf.SlSortCmp.WholeK
import Derived.Ground.SlsfProg
import Derived.Shelf.Small.Bits
import Derived.Shelf.Small.Wraps
import Derived.Shelf.Strconv.Itoa0
import Derived.Shelf.Sort.Plain
import Derived.Shelf.Slices.Turned
import Derived.Ground.Names2Prog
import Derived.Shelf.Slices.CompactI
import Derived.Shelf.Slices.SearchI
import Derived.Shelf.Slices.Cells
import Derived.Shelf.Slices.In.SortNone
import Derived.Test.YtebkgbmijocdjaaGreatProg
import Derived.Test.YtebkgbmijocdjaaGreatZ08
set_option maxHeartbeats 32000000
set_option maxRecDepth 100000
set_option linter.unusedVariables false
set_option linter.unusedSimpArgs false
namespace Go.Proofs.YtebkgbmijocdjaaGreat.Tp
open Go Go.RowKit Go.Maps
open Go.ChangeMaps (setBlock heap_setBlock_same heap_setBlock_other modify_eq_set)
theorem Xd6:Keyed Tryz.prog 3:=int_keyed Tryz.underlying3
def okI (x:Int):Prop:=(Lit.int .i64 x).wf=true
theorem Xik {x:Int}(h1 : -9223372036854775808≤x)(h2:x≤9223372036854775807):okI x:=by
 unfold okI;show (decide (IntKind.i64.min≤x) && decide (x≤IntKind.i64.max))=true;rw[Bool.and_eq_true,decide_eq_true_eq,decide_eq_true_eq];exact ⟨h1,h2⟩
def IMap (w:World)(b:Nat)(F:Int→Option Int):Prop :=
 ∃es clock,w.heap[b]? = some (.map es clock)∧(es.toList.map (·.key)).Nodup ∧
  (∀e ∈ es.toList,∃x v,okI x∧e.key = .int .i64 x∧e.val=Value.int .i64 v∧F x=some v)∧(∀x v,F x=some v → ∃e ∈ es.toList,e.key = .int .i64 x)
theorem IMap.made (w:World):IMap (w.alloc (.map #[] 0)) w.heap.size (fun _=>none) :=
 ⟨#[],0,(MapKept.heap_alloc w _).1,by simp,by simp,by simp⟩
theorem IMap.lt {w:World}{b:Nat}{F:Int→Option Int}(h:IMap w b F):b<w.heap.size:=by
 obtain ⟨es,clock,hb,_⟩:=h;exact (Array.getElem?_eq_some_iff.1 hb).1
theorem IMap.kept {w w':World}{b:Nat}{F:Int→Option Int}{row:Option Nat}(h:IMap w b F)(hg:w.grownBy w' row)(hne:some b ≠ row):IMap w' b F:=by
 have hlt:=h.lt;obtain ⟨es,clock,hb,h1⟩:=h;exact ⟨es,clock,(hg.block b hlt hne).trans hb,h1⟩
theorem IMap.below {w w':World}{b B:Nat}{F:Int→Option Int}(h:IMap w b F)(hB:Below B w w')(hb:b<B):IMap w' b F:=by
 obtain ⟨es,clock,hb1,h1⟩:=h;exact ⟨es,clock,(hB.block b hb).trans hb1,h1⟩
theorem Xmm {es:Array MapEntry}{F:Int→Option Int}(h:∀e ∈ es.toList,∃x v,okI x∧e.key = .int .i64 x∧e.val=Value.int .i64 v∧F x=some v):∀e ∈ es.toList,∃l,keyOf Tryz.prog 3 e.key=some l:=fun e he=>by
 obtain ⟨x,v,hx,hk,_⟩:=h e he;rw[hk];exact ⟨_,keyOf_int_mk Tryz.underlying3 (show (Lit.int .i64 x).wf=true from hx)⟩
theorem int_inj {x y:Int}(h:Value.int .i64 x=Value.int .i64 y):x=y:=by cases h; rfl
theorem IMap.look {w:World}{b:Nat}{F:Int→Option Int}(h:IMap w b F)(x:Int)(hx:okI x) :
  (Instr.lookup 230 (.map (some b)) (.int .i64 x) true).run Tryz.prog w = .ok (.tuple #[Value.int .i64 ((F x).getD 0),.bool (F x).isSome]) w:=by
 obtain ⟨es,clock,hb,hd,h1,h2⟩:=h;have hl:=keyOf_int_mk Tryz.underlying3 (show (Lit.int .i64 x).wf=true from hx);rcases Xd6.find w hl es.toList (Xmm h1) with ⟨hf,hn⟩ | ⟨j,e,hf,hj,hk⟩
 ·have:F x=none:=by
   cases hF:F x with
   | none=>rfl
   | some v =>
     obtain ⟨e,he,hk⟩:=h2 x v hF;exact absurd hk (hn e he)
  simp[Instr.lookup,run_underlying Tryz.underlying230,MapKept.run_getObj_map hb,Xd6.check w _ hl,hf,Result.andThen,this]
 ·obtain ⟨y,v,hy,hky,hv,hF⟩:=h1 e (List.mem_of_getElem? hj);rw[hk] at hky;obtain rfl:=int_inj hky;simp[Instr.lookup,run_underlying Tryz.underlying230,MapKept.run_getObj_map hb,Xd6.check w _ hl,hf,hv,Result.andThen,hF]
def putF (F:Int→Option Int)(x:Int)(v:Int):Int→Option Int:=fun y=>if y=x then some v else F y
theorem IMap.put {w:World}{b:Nat}{F:Int→Option Int}(h:IMap w b F)(x:Int)(hx:okI x)(v:Int) :
  ∃w',(Instr.mapUpdate 230 (.map (some b)) (.int .i64 x) (Value.int .i64 v)).run Tryz.prog w = .ok () w' ∧ IMap w' b (putF F x v)∧w.grownBy w' (some b):=by
 obtain ⟨es,clock,hb,hd,h1,h2⟩:=h;have hl:=keyOf_int_mk Tryz.underlying3 (show (Lit.int .i64 x).wf=true from hx);have grown:∀o,w.grownBy (setBlock w b o) (some b):=fun o=>⟨rfl,rfl,rfl,by simp[setBlock],fun i _ hi=>heap_setBlock_other hb _ (fun e=>hi (by rw[e]))⟩
 rcases Xd6.find w hl es.toList (Xmm h1) with ⟨hf,hn⟩ | ⟨j,e0,hf,hj,hk⟩
 ·refine ⟨setBlock w b (.map (es.push ⟨.int .i64 x,Value.int .i64 v,clock⟩) (clock+1)),?_,⟨_,_,heap_setBlock_same hb _,?_,?_,?_⟩,grown _⟩
  ·simp[Instr.mapUpdate,run_underlying Tryz.underlying230,MapKept.run_getObj_map hb,Xd6.check w _ hl,hf,MapKept.run_setObj_map _ hb,Result.andThen,setBlock]
  ·rw[Array.toList_push,List.map_append,List.nodup_append];refine ⟨hd,by simp,?_⟩
   intro a ha c hc;obtain ⟨e,he,rfl⟩:=List.mem_map.1 ha;simp only[List.map_cons,List.map_nil,List.mem_singleton] at hc;rw[hc];exact hn e he
  ·intro e he;simp only[Array.toList_push,List.mem_append,List.mem_singleton] at he;rcases he with he | rfl
   ·obtain ⟨y,u,hy,hky,hu,hF⟩:=h1 e he;refine ⟨y,u,hy,hky,hu,?_⟩;have:y ≠ x:=fun c=>hn e he (by rw[hky,c])
    simp[putF,this,hF]
   ·exact ⟨x,v,hx,rfl,rfl,by simp[putF]⟩
  ·intro y u hyu;simp only[Array.toList_push,List.mem_append,List.mem_singleton]
   by_cases c:y=x
   ·subst c;exact ⟨_,Or.inr rfl,rfl⟩
   ·simp only[putF,c,if_false] at hyu;obtain ⟨e,he,hke⟩:=h2 y u hyu;exact ⟨e,Or.inl he,hke⟩
 ·have hj':es[j]? = some e0:=by simpa using hj
  have hjl:j<es.toList.length:=(List.getElem?_eq_some_iff.1 hj).1;have hlist:(es.modify j (fun e' => { e' with key:=.int .i64 x,val:=Value.int .i64 v })).toList=es.toList.set j { e0 with key:=.int .i64 x,val:=Value.int .i64 v }:=by rw[Array.toList_modify,modify_eq_set _ _ _ _ hj]
  have hkeys:(es.toList.set j { e0 with key:=.int .i64 x,val:=Value.int .i64 v }).map (·.key)=es.toList.map (·.key):=by
   rw[List.map_set];refine List.ext_getElem? (fun i=>?_);rw[List.getElem?_set]
   split
   ·rename_i c
    subst c;simp[hj,hk];simpa using hjl
   ·rfl
  refine ⟨setBlock w b (.map (es.modify j (fun e' => { e' with key:=.int .i64 x,val:=Value.int .i64 v })) clock),?_,⟨_,_,heap_setBlock_same hb _,?_,?_,?_⟩,grown _⟩
  ·simp[Instr.mapUpdate,run_underlying Tryz.underlying230,MapKept.run_getObj_map hb,Xd6.check w false hl,hf,hj',hk,Xd6.stays w hl,MapKept.run_setObj_map _ hb,Result.andThen,setBlock]
  ·rw[hlist,hkeys];exact hd
  ·intro e he;rw[hlist] at he;obtain ⟨i,hi⟩:=List.getElem?_of_mem he;rw[List.getElem?_set] at hi
   split at hi
   ·simp only[Option.some.injEq] at hi;subst hi;exact ⟨x,v,hx,rfl,rfl,by simp[putF]⟩
   ·rename_i c
    obtain ⟨y,u,hy,hky,hu,hF⟩:=h1 e (List.mem_of_getElem? hi);refine ⟨y,u,hy,hky,hu,?_⟩;have:y ≠ x:=fun q=>by
     subst q;have e1:(es.toList.map (·.key))[i]? = some (.int .i64 y):=by rw[List.getElem?_map,hi]; simp[hky]
     have e2:(es.toList.map (·.key))[j]? = some (.int .i64 y):=by rw[List.getElem?_map,hj]; simp[hk]
     exact c ((List.getElem?_inj (by simpa using hjl) hd).1 (e2.trans e1.symm))
    simp[putF,this,hF]
  ·intro y u hyu
   by_cases c:y=x
   ·subst c;refine ⟨{ e0 with key:=.int .i64 y,val:=Value.int .i64 v },?_,rfl⟩
    rw[hlist];exact List.mem_set hjl _
   ·simp only[putF,c,if_false] at hyu;obtain ⟨e,he,hke⟩:=h2 y u hyu;have hm:e.key ∈ (es.toList.set j { e0 with key:=.int .i64 x,val:=Value.int .i64 v }).map (·.key):=by rw[hkeys]; exact List.mem_map.2 ⟨e,he,rfl⟩
    obtain ⟨e',he',hke'⟩:=List.mem_map.1 hm;exact ⟨e',by rw[hlist]; exact he',by rw[hke',hke]⟩
theorem IMap.look1 {w:World}{b:Nat}{F:Int→Option Int}(h:IMap w b F)(x:Int)(hx:okI x) :
  (Instr.lookup 230 (.map (some b)) (.int .i64 x) false).run Tryz.prog w = .ok (.int .i64 ((F x).getD 0)) w:=by
 obtain ⟨es,clock,hb,hd,h1,h2⟩:=h;have hl:=keyOf_int_mk Tryz.underlying3 (show (Lit.int .i64 x).wf=true from hx);rcases Xd6.find w hl es.toList (Xmm h1) with ⟨hf,hn⟩ | ⟨j,e,hf,hj,hk⟩
 ·have:F x=none:=by
   cases hF:F x with
   | none=>rfl
   | some v =>
     obtain ⟨e,he,hk⟩:=h2 x v hF;exact absurd hk (hn e he)
  simp[Instr.lookup,run_underlying Tryz.underlying230,MapKept.run_getObj_map hb,Xd6.check w _ hl,hf,Result.andThen,this]
 ·obtain ⟨y,v,hy,hky,hv,hF⟩:=h1 e (List.mem_of_getElem? hj);rw[hk] at hky;obtain rfl:=int_inj hky;simp[Instr.lookup,run_underlying Tryz.underlying230,MapKept.run_getObj_map hb,Xd6.check w _ hl,hf,hv,Result.andThen,hF]
section
variable (w:World) {ops:Array Oper} {rest:List Oper} {o:Oper} {a:Act} {Q:Exit→Act→World→Prop}
theorem Xgu (hg:o.guard=none)(m x:Operand)(hop:o.op=Op.lookup 230 m x true)(b:Nat)(F:Int→Option Int)(hm:a.eval m = .map (some b))(hown:IMap w b F)(y:Int)(hx:a.eval x = .int .i64 y)(hy:okI y)
  (v:Int) (q:Bool) (h1:(F y).getD 0=v) (h2:(F y).isSome=q)
  (hK:wpList Tryz.prog ops Q rest (a.put o.dst (.tuple #[.int .i64 v,.bool q])) w):wpList Tryz.prog ops Q (o :: rest) a w:=by
 refine wpList_plain hg fun K' hK' => ?_;have hrun:=hown.look y hy;rw[h1,h2] at hrun;unfold Oper.wp;simp[execOp,hop,hm,hx,hrun,Result.andThen];exact hK' _ _ hK
theorem Xd2 (hg:o.guard=none)(m x:Operand)(hop:o.op=Op.lookup 230 m x false)(b:Nat)(F:Int→Option Int)(hm:a.eval m = .map (some b))(hown:IMap w b F)(y:Int)(hx:a.eval x = .int .i64 y)(hy:okI y)
  (v:Int) (h1:(F y).getD 0=v)
  (hK:wpList Tryz.prog ops Q rest (a.put o.dst (.int .i64 v)) w):wpList Tryz.prog ops Q (o :: rest) a w:=by
 refine wpList_plain hg fun K' hK' => ?_;have hrun:=hown.look1 y hy;rw[h1] at hrun;unfold Oper.wp;simp[execOp,hop,hm,hx,hrun,Result.andThen];exact hK' _ _ hK
theorem Xi9 (hg:o.guard=none)(m x v:Operand)(hop:o.op=Op.mapUpdate 230 m x v)(b:Nat)(F:Int→Option Int)(hm:a.eval m = .map (some b))(hown:IMap w b F)(y:Int)(hx:a.eval x = .int .i64 y)(hy:okI y)
  (u:Int) (hv:a.eval v = .int .i64 u) (hK:∀w',IMap w' b (putF F y u)→w.grownBy w' (some b)→wpList Tryz.prog ops Q rest (a.put o.dst undef) w'):wpList Tryz.prog ops Q (o :: rest) a w:=by
 refine wpList_plain hg fun K' hK' => ?_;obtain ⟨w',hrun,r1,r2⟩:=hown.put y hy u;unfold Oper.wp;simp[execOp,hop,hm,hx,hv,hrun,Result.andThen];exact hK' _ _ (hK w' r1 r2)
end
end Go.Proofs.YtebkgbmijocdjaaGreat.Tp
namespace Go.Proofs.YtebkgbmijocdjaaGreat.Tp
open Go Go.RowKit
theorem Xtm:(Tryz.prog.info? 3).map (fun i=>(i.zero,i.size,i.bytes))=some (some (.int .i64 0),1,8):=by kernel_rfl
theorem Xh3 {w:World}{base:Nat}{t:TypeId}{k n:Nat}{v:Value}{xs:List Value}(h:w.ownsRow base t k v n xs):∃A c,v = .slice A n c:=by
 rcases h.2 with ⟨rfl,rfl⟩ | ⟨g,cap,cur,rfl,_⟩
 ·exact ⟨none,0,rfl⟩
 ·exact ⟨_,cap,rfl⟩
def Xk7 (g5 g6 bm base:Nat)(F:Int→Option Int)(ts:List Int)(v:Value)(t n:Int)(w:World)(e:Ending)(w':World):Prop:=e = .returned (.tuple #[]) ∧ ∃v',Boxed w' g5 230 (.map (some bm))∧IMap w' bm (putF F t ((F t).getD 0+n))∧Boxed w' g6 22 v' ∧ w'.ownsRow base 3 1 v' (if (F t).isSome then ts else ts ++ [t]).length ((if (F t).isSome then ts else ts ++ [t]).flatMap intE.f)∧w.heap.size≤w'.heap.size∧(∀j,j<w.heap.size→j ≠ g6→j ≠ bm→v.ownBlock ≠ some j→w'.heap[j]? = w.heap[j]?) ∧ ∀b0,b0≤base→b0≤g6→b0≤bm→Below b0 w w'
theorem note_any (g5 g6 bm base:Nat)(F:Int→Option Int)(ts:List Int)(v:Value)(t n:Int)(w:World)(h5:Boxed w g5 230 (.map (some bm)))(hM:IMap w bm F)(h6:Boxed w g6 22 v)(hR:w.ownsRow base 3 1 v ts.length (ts.flatMap intE.f))(hb:base≤w.heap.size)(hts:ts.length≤100000)(ht:okI t)(hn : -1000000000000≤n∧n≤1000000000000)(hF : -1000000000000≤(F t).getD 0∧(F t).getD 0≤1000000000000) :
  Calls Tryz.prog 153 #[.int .i64 t,.int .i64 n,.pointer (some ⟨g5,0,none⟩),.pointer (some ⟨g6,0,none⟩)] w (Xk7 g5 g6 bm base F ts v t n w):=by
 have hm5:bm ≠ g5:=fun e=>by
  obtain ⟨es,c,hb,_⟩:=hM;rw[e] at hb;have:=(show w.heap[g5]? = some _ from h5).symm.trans hb;cases this
 have hm6:bm ≠ g6:=fun e=>by
  obtain ⟨es,c,hb,_⟩:=hM;rw[e] at hb;have:=(show w.heap[g6]? = some _ from h6).symm.trans hb;cases this
 have h56:g5 ≠ g6:=fun e=>by
  rw[e] at h5;have:=(show w.heap[g6]? = some _ from h5).symm.trans h6;simp at this
 have hvm:v.ownBlock ≠ some bm:=fun e=>by
  obtain ⟨es,c,hb,_⟩:=hM;rcases hR.2 with ⟨rfl,_⟩ | ⟨g,cap,cur,rfl,_,hg,_⟩
  ·simp[Value.ownBlock] at e
  ·simp[Value.ownBlock] at e;rw[e] at hg;have:=hg.symm.trans hb;cases this
 have c5:=h5.cell;have c6:=h6.cell;have f6:=h6.frozen;have HH:=Lib.hid (And.intro hm5 (And.intro hm6 (And.intro h56 hvm)));have H5:=Lib.hid h5;have H6:=Lib.hid h6;have HM:=Lib.hid hM;have HR:=Lib.hid hR;have HT:=Lib.hid ht;obtain ⟨i0,hi0,hz0,hz1,hz2⟩:=info_parts Xtm;obtain ⟨u,hu⟩:∃u,(F t).getD 0=u:=⟨_,rfl⟩;have HU:=Lib.hid hu;rw[hu] at hF;obtain ⟨hF1,hF2⟩:=hF;obtain ⟨hn1,hn2⟩:=hn;clear h5 h6 hM hR hm5 hm6 h56 hvm ht hu;cases hs:(F t).isSome with
 | false =>
   have HS:=Lib.hid hs;clear hs;go_enter Tryz.func153,Tryz.ntmps153;go_wp2_with (first
    | (at_lookup; refine Xgu _ rfl _ _ rfl bm F rfl HM.out t rfl HT.out u false HU.out HS.out ?_)
    | (at_builtin; refine wpList_append_own_at _ rfl _ _ 22 rfl base 3 i0 (.int .i64 0) 1 8 Tryz.underlying22 hi0 hz0 hz1 hz2 rfl (by decide) _ _ _ rfl (HR.out.alloc _) ⟨w.heap.size,0,none⟩ 1 1 [.int .i64 t] rfl rfl ?d1 ?d2 ?d3 ?d4 ?d5 ?_))
   case d1=>exact fun j u hu=>by rw[Addr.add_mid,Nat.zero_add]; exact Xcj _ [.int .i64 t] _ rfl j u hu
   case d2=>exact fun u hu=>intE.one t u hu
   case d3=>unfold maxLen; omega
   case d4=>omega
   case d5=>simp; omega
   intro v' w4 hown' hg' _ hob';have hrow:w4.ownsRow base 3 1 v' (ts.length+1) ((ts ++ [t]).flatMap intE.f):=by
    rw[List.flatMap_append,show [t].flatMap intE.f = [.int .i64 t] from rfl];exact hown'
   have hM4:IMap w4 bm F:=(HM.out.kept (World.grownBy_alloc w _ none) (by simp)).kept hg' (fun e=>HH.out.2.2.2 e.symm)
   have h54:Boxed w4 g5 230 (.map (some bm)):=(H5.out.alloc _).kept hg' (H5.out.not_row (by decide) HR.out)
   have h64:Boxed w4 g6 22 v:=(H6.out.alloc _).kept hg' (H6.out.not_row (by decide) HR.out)
   have x1:Boxed (w4.setCell ⟨g6,0,none⟩ v') g6 22 v':=h64.set v';have x2:Boxed (w4.setCell ⟨g6,0,none⟩ v') g5 230 (.map (some bm)):=h54.kept (grownBy_setCell' w4 g6 v') (fun e=>HH.out.2.2.1 (Option.some.inj e));have x3:IMap (w4.setCell ⟨g6,0,none⟩ v') bm F:=hM4.kept (grownBy_setCell' w4 g6 v') (fun e=>HH.out.2.1 (Option.some.inj e));have x4:(w4.setCell ⟨g6,0,none⟩ v').ownsRow base 3 1 v' (ts.length+1) ((ts ++ [t]).flatMap intE.f):=hrow.kept (grownBy_setCell' w4 g6 v') (.inr (h64.not_row (by decide) hrow).symm)
   have hvm4:v'.ownBlock ≠ some bm:=by
    rcases hob' with e | e
    ·rw[e]; exact HH.out.2.2.2
    ·rw[e];intro e2;have:=HM.out.lt;simp at e2;omega
   have hrb:∀j,v.ownBlock=some j→base≤j:=fun j hj=>(HR.out.lt j hj).1;have x5:∀j,j<w.heap.size→j ≠ g6→j ≠ bm→v.ownBlock ≠ some j→(w4.setCell ⟨g6,0,none⟩ v').heap[j]? = w.heap[j]? := by
    intro j hj hne _ hno;rw[Below.heap_setCell w4 ⟨g6,0,none⟩ v' j hne];rw[hg'.block j (by simp; omega) (fun e=>hno e.symm)]
    exact Below.heap_alloc w _ j hj
   have x6:∀b0,b0≤base→b0≤g6→Below b0 w (w4.setCell ⟨g6,0,none⟩ v'):=fun b0 h1 h2 =>
    (((Below.refl b0 w).alloc (by omega) _).grown hg' (by simp; omega) (fun j hj=>Nat.le_trans h1 (hrb j hj))).setCell (p:=⟨g6,0,none⟩) h2 v'
   obtain ⟨A4,k4,rfl⟩:=Xh3 hrow;have c6':=h64.cell;have f6':=h64.frozen;have c5':=x2.cell;have HX:=Lib.hid (And.intro x1 (And.intro x2 (And.intro x3 (And.intro x4 (And.intro hvm4 (And.intro x5 x6))))));clear hown' hg' hob' hrow hM4 h54 h64 x1 x2 x3 x4 hvm4 x5 x6 hrb c5 c6 f6;go_wp2_with (first
    | (at_lookup; refine Xd2 _ rfl _ _ rfl bm F rfl HX.out.2.2.1 t rfl HT.out u HU.out ?_)
    | (at_mapUpdate; refine Xi9 _ rfl _ _ _ rfl bm F rfl HX.out.2.2.1 t rfl HT.out (u+n) rfl ?_; intro w2 hm2 hg2))
   obtain ⟨x1,x2,x3,x4,x5,x6,x7⟩:=HX.out;go_end0;unfold Xk7;rw[HS.out,HU.out];rw[if_neg (by decide),List.length_append]
   refine ⟨rfl,_,x2.kept hg2 (fun e=>HH.out.1 (Option.some.inj e).symm),hm2,x1.kept hg2 (fun e=>HH.out.2.1 (Option.some.inj e).symm),x4.kept hg2 (.inr x5),?_,?_,?_⟩
   ·have h1:=hg2.size;have h2:=(x7 0 (Nat.zero_le _) (Nat.zero_le _)).size;omega
   ·intro j hj h1 h2 h3;have h4:=(x7 0 (Nat.zero_le _) (Nat.zero_le _)).size;rw[hg2.block j (by omega) (fun e=>h2 (Option.some.inj e))]
    exact x6 j hj h1 h2 h3
   ·intro b0 h1 h2 h3;have h4:=(x7 0 (Nat.zero_le _) (Nat.zero_le _)).size;exact (x7 b0 h1 h2).grown hg2 (by omega) (fun j hj=>by cases hj; exact h3)
 | true =>
   have HS:=Lib.hid hs;clear hs;go_enter Tryz.func153,Tryz.ntmps153;go_wp2_with (first
    | (at_lookup; refine Xgu _ rfl _ _ rfl bm F rfl HM.out t rfl HT.out u true HU.out HS.out ?_)
    | (at_lookup; refine Xd2 _ rfl _ _ rfl bm F rfl HM.out t rfl HT.out u HU.out ?_)
    | (at_mapUpdate; refine Xi9 _ rfl _ _ _ rfl bm F rfl HM.out t rfl HT.out (u+n) rfl ?_; intro w2 hm2 hg2))
   go_end0;unfold Xk7;rw[HS.out,HU.out];refine ⟨rfl,v,H5.out.kept hg2 (fun e=>HH.out.1 (Option.some.inj e).symm),hm2,H6.out.kept hg2 (fun e=>HH.out.2.1 (Option.some.inj e).symm),HR.out.kept hg2 (.inr HH.out.2.2.2),hg2.size,?_,?_⟩
   ·intro j hj h1 h2 h3;exact hg2.block j hj (fun e=>h2 (Option.some.inj e))
   ·intro b0 h1 h2 h3;exact (Below.refl b0 w).grown hg2 (by omega) (fun j hj=>by cases hj; exact h3)
def NInv (ev:List (Int × Int))(F:Int→Option Int)(ts:List Int):Prop:=ts=Xay ev ∧ ∀t,F t=if t ∈ ts then some (chg ev t) else none
theorem ninv0:NInv [] (fun _=>none) []:=⟨rfl,fun t=>by simp⟩
theorem Xnr (ev:List (Int × Int))(e:Int × Int)(u:Int):chg (ev ++ [e]) u=chg ev u+(if e.1=u then e.2 else 0):=by
 unfold chg;rw[List.filter_append,List.map_append,List.sum_append]
 by_cases h:e.1=u <;> simp[List.filter_cons,h]
theorem Xs9 {ev:List (Int × Int)}{t:Int}(h:t ∉ Xay ev):chg ev t=0:=by
 unfold chg;have:ev.filter (fun e=>decide (e.1=t)) = []:=by
  rw[List.filter_eq_nil_iff];intro e he;have:e.1 ≠ t:=fun c=>h (Xg0.2 ⟨e,he,c⟩);simpa using this
 rw[this]; rfl
theorem NInv.at_ {ev:List (Int × Int)}{F:Int→Option Int}{ts:List Int}(h:NInv ev F ts)(t:Int):(F t).getD 0=chg ev t:=by
 rw[h.2 t]
 split
 ·rfl
 ·rename_i hn
  rw[h.1] at hn;rw[Xs9 hn]; rfl
theorem NInv.step {ev:List (Int × Int)}{F:Int→Option Int}{ts:List Int}(h:NInv ev F ts)(t n:Int):NInv (ev ++ [(t,n)]) (putF F t ((F t).getD 0+n)) (if (F t).isSome then ts else ts ++ [t]):=by
 have h1:(if (F t).isSome then ts else ts ++ [t])=Xev ts t:=by
  unfold Xev;rw[h.2 t]
  by_cases hm:t ∈ ts
  ·simp[hm]
  ·simp[hm]
 rw[h1];have h2:Xev ts t=Xay (ev ++ [(t,n)]):=by
  rw[h.1];unfold Xay;rw[List.foldl_append]; rfl
 refine ⟨h2,fun u=>?_⟩;unfold putF;rw[Xnr]
 by_cases hu:u=t
 ·subst hu;rw[if_pos rfl,if_pos (Xfe.2 (.inr rfl)),h.at_ u];simp
 ·rw[if_neg hu,h.2 u];have:t ≠ u:=fun e=>hu e.symm
  by_cases hm:u ∈ ts
  ·rw[if_pos hm,if_pos (Xfe.2 (.inl hm))];simp[this]
  ·rw[if_neg hm,if_neg (fun c=>by rcases Xfe.1 c with c | c; exact hm c; exact hu c)]
theorem Xqt {B:Int}(hB:0≤B):∀ {ev:List (Int × Int)},(∀e ∈ ev, -B≤e.2∧e.2≤B) → ∀t, -(B * ev.length)≤chg ev t∧chg ev t≤B * ev.length
 | [],_,t=>by simp[chg]
 | e :: ev,h,t=>by
   have ih:=Xqt hB (ev:=ev) (fun x hx=>h x (by simp[hx])) t
   have he:=h e (by simp)
   rw[Xns,List.length_cons,Int.natCast_add,Int.mul_add]
   split <;> omega
theorem Xdb (ev:List (Int × Int)):(Xay ev).length≤ev.length:=by
 have h:∀(ev:List (Int × Int)) (ts:List Int),(ev.foldl (fun ts e=>Xev ts e.1) ts).length≤ts.length+ev.length:=by
  intro ev
  induction ev with
  | nil=>intro ts; simp
  | cons e ev ih =>
    intro ts;have h1:=ih (Xev ts e.1);have h2:(Xev ts e.1).length≤ts.length+1:=by unfold Xev; split <;> simp
    simp only[List.foldl_cons,List.length_cons];omega
 simpa[Xay] using h ev []
theorem Xs7 (L:List Hld)(r:Hld)(n:Int):evL (L ++ [r]) n=evL L n ++ (if r.node=n then [(r.frm,r.size),(r.til, -r.size)] else []):=by
 unfold evL;rw[List.filter_append,List.flatMap_append]
 by_cases h:r.node=n <;> simp[List.filter_cons,h]
theorem Xhq (L:List Hld)(n:Int):(evL L n).length≤2 * L.length:=by
 induction L with
 | nil=>simp[evL]
 | cons h L ih =>
   have:evL (h :: L) n=(if h.node=n then [(h.frm,h.size),(h.til, -h.size)] else []) ++ evL L n:=by
    unfold evL;rw[List.filter_cons]
    by_cases e:h.node=n <;> simp[e]
   rw[this,List.length_append,List.length_cons]
   split <;> simp <;> omega
end Go.Proofs.YtebkgbmijocdjaaGreat.Tp
/-
  DERIVED: THE SHELF's CONTRACTS AT THIS DUMP, IN PLAIN WORDS (tools/lay-plain.mjs out of 'TryzShelf.lean', which tools/lay-shelf.mjs wrote): THE SAME DECLARATIONS UNDER THE SAME NAMES: 'import', 'namespace', 'open', 'def', 'theorem' AND NOTHING ELSE: no command of the shelf's: FOR A HAND-IN. Each laying: the table of numbers ('.._ren') and one theorem, a field a fact of the dump's own or the kernel's comparison; each contract: ONE APPLICATION.
-/
namespace Go.Proofs
open Go.Shelf
open Go.RowKit in
open Go.RowKit in
def Tryz.lays189_ren : Go.Shelf.Ren := ⟨fun | 189 => 99 | 125 => 142 | 257 => 154 | 128 => 180 | 129 => 181 | 294 => 195 | 295 => 196 | 296 => 197 | 297 => 198 | 298 => 199 | 299 => 200 | 216 => 201 | 300 => 202 | 301 => 203 | 328 => 223 | 329 => 213 | 330 => 214 | 331 => 224 | 332 => 225 | 215 => 146 | 343 => 234 | n => n, fun | 28 => 22 | 3 => 3 | 46 => 220 | 0 => 0 | 51 => 250 | 53 => 252 | 4 => 4 | 183 => 244 | 182 => 243 | 131 => 77 | 5 => 5 | 9 => 9 | 218 => 277 | 222 => 281 | 228 => 290 | 229 => 291 | n => n, fun | n => n⟩
theorem Tryz.lays189 : Go.Proofs.Lays.n189 Tryz.prog Tryz.lays189_ren := {
  mixed := by kernel_rfl
  f125 := Tryz.func142.trans (congrArg some (by kernel_rfl))
  f128 := Tryz.func180.trans (congrArg some (by kernel_rfl))
  f129 := Tryz.func181.trans (congrArg some (by kernel_rfl))
  f189 := Tryz.func99.trans (congrArg some (by kernel_rfl))
  f215 := Tryz.func146.trans (congrArg some (by kernel_rfl))
  f216 := Tryz.func201.trans (congrArg some (by kernel_rfl))
  f257 := Tryz.func154.trans (congrArg some (by kernel_rfl))
  f294 := Tryz.func195.trans (congrArg some (by kernel_rfl))
  f295 := Tryz.func196.trans (congrArg some (by kernel_rfl))
  f296 := Tryz.func197.trans (congrArg some (by kernel_rfl))
  f297 := Tryz.func198.trans (congrArg some (by kernel_rfl))
  f298 := Tryz.func199.trans (congrArg some (by kernel_rfl))
  f299 := Tryz.func200.trans (congrArg some (by kernel_rfl))
  f300 := Tryz.func202.trans (congrArg some (by kernel_rfl))
  f301 := Tryz.func203.trans (congrArg some (by kernel_rfl))
  f328 := Tryz.func223.trans (congrArg some (by kernel_rfl))
  f329 := Tryz.func213.trans (congrArg some (by kernel_rfl))
  f330 := Tryz.func214.trans (congrArg some (by kernel_rfl))
  f331 := Tryz.func224.trans (congrArg some (by kernel_rfl))
  f332 := Tryz.func225.trans (congrArg some (by kernel_rfl))
  f343 := Tryz.func234.trans (congrArg some (by kernel_rfl))
  t0 := Tryz.underlying0
  a0 := Tryz.isAgg0
  z0 := Tryz.sizeOf0
  v0 := Tryz.zeroValue0
  t3 := Tryz.underlying3
  a3 := Tryz.isAgg3
  z3 := Tryz.sizeOf3
  v3 := Tryz.zeroValue3
  t4 := Tryz.underlying4
  a4 := Tryz.isAgg4
  z4 := Tryz.sizeOf4
  v4 := Tryz.zeroValue4
  t5 := Tryz.underlying5
  a5 := Tryz.isAgg5
  z5 := Tryz.sizeOf5
  v5 := Tryz.zeroValue5
  t9 := Tryz.underlying9
  a9 := Tryz.isAgg9
  z9 := Tryz.sizeOf9
  v9 := Tryz.zeroValue9
  t28 := Tryz.underlying22
  a28 := Tryz.isAgg22
  z28 := Tryz.sizeOf22
  v28 := Tryz.zeroValue22
  t46 := Tryz.underlying220
  a46 := Tryz.isAgg220
  z46 := Tryz.sizeOf220
  v46 := Tryz.zeroValue220
  t51 := Tryz.underlying250
  a51 := Tryz.isAgg250
  z51 := Tryz.sizeOf250
  v51 := Tryz.zeroValue250
  t53 := Tryz.underlying252
  a53 := Tryz.isAgg252
  z53 := Tryz.sizeOf252
  v53 := Tryz.zeroValue252
  t131 := Tryz.underlying77
  a131 := Tryz.isAgg77
  z131 := Tryz.sizeOf77
  v131 := Tryz.zeroValue77
  t182 := Tryz.underlying243
  a182 := Tryz.isAgg243
  z182 := Tryz.sizeOf243
  v182 := Tryz.zeroValue243
  t183 := Tryz.underlying244
  a183 := Tryz.isAgg244
  z183 := Tryz.sizeOf244
  v183 := Tryz.zeroValue244
  t218 := Tryz.underlying277
  a218 := Tryz.isAgg277
  z218 := Tryz.sizeOf277
  v218 := Tryz.zeroValue277
  t222 := Tryz.underlying281
  a222 := Tryz.isAgg281
  z222 := Tryz.sizeOf281
  v222 := Tryz.zeroValue281
  t228 := Tryz.underlying290
  a228 := Tryz.isAgg290
  z228 := Tryz.sizeOf290
  v228 := Tryz.zeroValue290
  t229 := Tryz.underlying291
  a229 := Tryz.isAgg291
  z229 := Tryz.sizeOf291
  v229 := Tryz.zeroValue291 }
open Go.Sort Go.RowKit in
theorem Tryz.slices_Sort_int (blk off cap : Nat) (zs : List Int) (w : World) (hH : Holds (Value.int .i64) w blk off zs.toArray) (hblk : blk < w.heap.size) (hsz : zs.length < 4611686018427387904) :
    Calls Tryz.prog 99 #[.slice (some ⟨blk, off, none⟩) zs.length cap] w fun e w' =>
      e = .returned (.tuple #[]) ∧ ∃ n os, w' = grow (putRow (Value.int .i64) (Sort.ahead w n) blk off (zs.mergeSort fun x y => decide (x ≤ y)).toArray) os := Any.slices_Sort_int Tryz.lays189 blk off cap zs w hH hblk hsz
open Go.Lib in
open Go.Lib in
open Go.Lib in
open Go.Lib in
open Go.RowKit Go.Lib Go.Sort in
open Go.RowKit Go.Lib Go.Sort in
open Go.RowKit Go.Lib Go.Sort in
open Go.RowKit Go.Lib in
open Go.RowKit Go.Lib in
open Go.RowKit Go.Lib Go.Sort in
open Go.RowKit Go.Sort in
/-- .. and plain. (LAID: no walk: one application.) -/
theorem Tryz.slices_Sort_int_none (p : Option Addr) (cap : Nat) (w : World) :
    Calls Tryz.prog 99 #[.slice p 0 cap] w fun e w' => e = .returned (.tuple #[]) ∧ w' = w := Any.slices_Sort_int_none Tryz.lays189 p cap w
def Tryz.sortLab_ren : Go.Shelf.Ren := ⟨fun | 6 => 71 | 15 => 142 | 14 => 141 | 28 => 180 | 29 => 181 | 20 => 172 | 21 => 173 | 22 => 174 | 23 => 175 | 24 => 176 | 25 => 177 | 26 => 178 | 27 => 179 | 46 => 212 | 47 => 213 | 48 => 214 | 49 => 215 | 50 => 216 | 57 => 230 | n => n, fun | 22 => 57 | 24 => 81 | 25 => 144 | 3 => 3 | 39 => 220 | 0 => 0 | 53 => 250 | 55 => 252 | 4 => 4 | 46 => 244 | 45 => 243 | 50 => 77 | 5 => 5 | 9 => 9 | 66 => 277 | 70 => 281 | 76 => 290 | 77 => 291 | n => n, fun | n => n⟩
theorem Tryz.sortLab : Go.Proofs.SlLaysF0.n6 Tryz.prog Tryz.sortLab_ren := {
  mixed := by kernel_rfl
  f6 := ⟨Tryz.f71.name, by decide, Tryz.func71.trans (congrArg some (by kernel_rfl))⟩
  f14 := ⟨Tryz.f141.name, by decide, Tryz.func141.trans (congrArg some (by kernel_rfl))⟩
  f15 := Tryz.func142.trans (congrArg some (by kernel_rfl))
  f20 := ⟨Tryz.f172.name, by decide, Tryz.func172.trans (congrArg some (by kernel_rfl))⟩
  f21 := ⟨Tryz.f173.name, by decide, Tryz.func173.trans (congrArg some (by kernel_rfl))⟩
  f22 := ⟨Tryz.f174.name, by decide, Tryz.func174.trans (congrArg some (by kernel_rfl))⟩
  f23 := ⟨Tryz.f175.name, by decide, Tryz.func175.trans (congrArg some (by kernel_rfl))⟩
  f24 := ⟨Tryz.f176.name, by decide, Tryz.func176.trans (congrArg some (by kernel_rfl))⟩
  f25 := ⟨Tryz.f177.name, by decide, Tryz.func177.trans (congrArg some (by kernel_rfl))⟩
  f26 := ⟨Tryz.f178.name, by decide, Tryz.func178.trans (congrArg some (by kernel_rfl))⟩
  f27 := ⟨Tryz.f179.name, by decide, Tryz.func179.trans (congrArg some (by kernel_rfl))⟩
  f28 := Tryz.func180.trans (congrArg some (by kernel_rfl))
  f29 := Tryz.func181.trans (congrArg some (by kernel_rfl))
  f46 := ⟨Tryz.f212.name, by decide, Tryz.func212.trans (congrArg some (by kernel_rfl))⟩
  f47 := Tryz.func213.trans (congrArg some (by kernel_rfl))
  f48 := Tryz.func214.trans (congrArg some (by kernel_rfl))
  f49 := ⟨Tryz.f215.name, by decide, Tryz.func215.trans (congrArg some (by kernel_rfl))⟩
  f50 := ⟨Tryz.f216.name, by decide, Tryz.func216.trans (congrArg some (by kernel_rfl))⟩
  f57 := ⟨Tryz.f230.name, by decide, Tryz.func230.trans (congrArg some (by kernel_rfl))⟩
  t0 := Tryz.underlying0
  a0 := Tryz.isAgg0
  z0 := Tryz.sizeOf0
  v0 := Tryz.zeroValue0
  t3 := Tryz.underlying3
  a3 := Tryz.isAgg3
  z3 := Tryz.sizeOf3
  v3 := Tryz.zeroValue3
  t4 := Tryz.underlying4
  a4 := Tryz.isAgg4
  z4 := Tryz.sizeOf4
  v4 := Tryz.zeroValue4
  t5 := Tryz.underlying5
  a5 := Tryz.isAgg5
  z5 := Tryz.sizeOf5
  v5 := Tryz.zeroValue5
  t9 := Tryz.underlying9
  a9 := Tryz.isAgg9
  z9 := Tryz.sizeOf9
  v9 := Tryz.zeroValue9
  t22 := Tryz.underlying57
  a22 := Tryz.isAgg57
  z22 := Tryz.sizeOf57
  v22 := Tryz.zeroValue57
  t25 := Tryz.underlying144
  a25 := Tryz.isAgg144
  z25 := Tryz.sizeOf144
  v25 := Tryz.zeroValue144
  t39 := Tryz.underlying220
  a39 := Tryz.isAgg220
  z39 := Tryz.sizeOf220
  v39 := Tryz.zeroValue220
  t45 := Tryz.underlying243
  a45 := Tryz.isAgg243
  z45 := Tryz.sizeOf243
  v45 := Tryz.zeroValue243
  t46 := Tryz.underlying244
  a46 := Tryz.isAgg244
  z46 := Tryz.sizeOf244
  v46 := Tryz.zeroValue244
  t50 := Tryz.underlying77
  a50 := Tryz.isAgg77
  z50 := Tryz.sizeOf77
  v50 := Tryz.zeroValue77
  t53 := Tryz.underlying250
  a53 := Tryz.isAgg250
  z53 := Tryz.sizeOf250
  v53 := Tryz.zeroValue250
  t55 := Tryz.underlying252
  a55 := Tryz.isAgg252
  z55 := Tryz.sizeOf252
  v55 := Tryz.zeroValue252
  t66 := Tryz.underlying277
  a66 := Tryz.isAgg277
  z66 := Tryz.sizeOf277
  v66 := Tryz.zeroValue277
  t70 := Tryz.underlying281
  a70 := Tryz.isAgg281
  z70 := Tryz.sizeOf281
  v70 := Tryz.zeroValue281
  t76 := Tryz.underlying290
  a76 := Tryz.isAgg290
  z76 := Tryz.sizeOf290
  v76 := Tryz.zeroValue290
  t77 := Tryz.underlying291
  a77 := Tryz.isAgg291
  z77 := Tryz.sizeOf291
  v77 := Tryz.zeroValue291 }
def Tryz.insBk_ren : Go.Shelf.Ren := ⟨fun | 20 => 190 | n => n, fun | 24 => 95 | 22 => 26 | 3 => 3 | 25 => 166 | 4 => 4 | 0 => 0 | n => n, fun | n => n⟩
theorem Tryz.insBk : Go.Proofs.SlLaysF0.n20 Tryz.prog Tryz.insBk_ren := {
  mixed := by kernel_rfl
  f20 := ⟨Tryz.f190.name, by decide, Tryz.func190.trans (congrArg some (by kernel_rfl))⟩
  t0 := Tryz.underlying0
  a0 := Tryz.isAgg0
  z0 := Tryz.sizeOf0
  v0 := Tryz.zeroValue0
  t3 := Tryz.underlying3
  a3 := Tryz.isAgg3
  z3 := Tryz.sizeOf3
  v3 := Tryz.zeroValue3
  t4 := Tryz.underlying4
  a4 := Tryz.isAgg4
  z4 := Tryz.sizeOf4
  v4 := Tryz.zeroValue4
  t22 := Tryz.underlying26
  a22 := Tryz.isAgg26
  z22 := Tryz.sizeOf26
  v22 := Tryz.zeroValue26
  t25 := Tryz.underlying166
  a25 := Tryz.isAgg166
  z25 := Tryz.sizeOf166
  v25 := Tryz.zeroValue166 }
end Go.Proofs
