/- A part of the proof for the ledger. No condition beyond those that each theorem states. -/
import Derived.Test.YtebkgbmijocdjaaGreatZ09
set_option maxHeartbeats 32000000
set_option maxRecDepth 100000
set_option linter.unusedVariables false
set_option linter.unusedSimpArgs false
namespace Go.Proofs.YtebkgbmijocdjaaGreat.Tp
open Go Go.RowKit
def Xsk (base:Nat)(v:Value)(ts:List Int)(w:World)(e:Ending)(w':World):Prop:=e = .returned (.tuple #[])∧w'.ownsRow base 3 1 v ts.length (ts.mergeSort.flatMap intE.f)∧w.grownBy w' v.ownBlock
theorem Xni (l:List Int):l.flatMap intE.f=l.map iv:=by
 induction l with
 | nil=>rfl
 | cons a l ih=>rw[List.flatMap_cons,List.map_cons,ih]; rfl
theorem Xl0 (w:World)(g off n:Nat)(d:Array Int)(os:Array Obj){t:TypeId}{cur:Array Value}(h:w.heap[g]? = some (.cells cur t (0,0))) :
  (Sort.grow (Sort.putRow (Value.int .i64) (Sort.ahead w n) g off d) os).heap[g]? = some (.cells (Sort.putCells (Value.int .i64) off d cur) t (0,0)) ∧ ∀k,k<w.heap.size→k ≠ g→(Sort.grow (Sort.putRow (Value.int .i64) (Sort.ahead w n) g off d) os).heap[k]? = w.heap[k]? := by
 have hg:g<w.heap.size:=(Array.getElem?_eq_some_iff.1 h).1;have hs:(Sort.putRow (Value.int .i64) (Sort.ahead w n) g off d).heap.size=w.heap.size:=by simp[Sort.putRow,Sort.mapBlock,Sort.ahead]
 refine ⟨?_,fun k hk hne=>?_⟩
 ·show ((Sort.putRow (Value.int .i64) (Sort.ahead w n) g off d).heap ++ os)[g]? = _;rw[Array.getElem?_append_left (by omega)]
  simp[Sort.putRow,Sort.mapBlock,Sort.ahead,Array.getElem?_modify,h,Sort.onCells]
 ·show ((Sort.putRow (Value.int .i64) (Sort.ahead w n) g off d).heap ++ os)[k]? = _;rw[Array.getElem?_append_left (by omega)]
  simp[Sort.putRow,Sort.mapBlock,Sort.ahead,Array.getElem?_modify];exact fun e=>absurd e.symm hne
theorem Xko (base:Nat)(v:Value)(ts:List Int)(w:World)(hR:w.ownsRow base 3 1 v ts.length (ts.flatMap intE.f))(hn:ts.length≤1000000) :
  Calls Tryz.prog 99 #[v] w (Xsk base v ts w):=by
 have hR0:=hR;obtain ⟨hxl,h⟩:=hR;rcases h with ⟨rfl,h0⟩ | ⟨g,cap,cur,rfl,hbg,hg,hnc,hcm,hcs,htk⟩
 ·have:ts = []:=List.eq_nil_of_length_eq_zero h0;subst this;refine (Tryz.slices_Sort_int_none none 0 w).mono ?_;rintro e w' ⟨rfl,rfl⟩;refine ⟨rfl,?_,⟨rfl,rfl,rfl,Nat.le_refl _,fun _ _ _=>rfl⟩⟩;simp only[List.mergeSort_nil,List.length_nil,List.flatMap_nil];exact World.ownsRow_nil _ _ _ _
 ·have hcell:∀j (hj:j<ts.length),cur[j]? = some (.int .i64 ts[j]):=fun j hj=>by
   have h1:(cur.toList.take (ts.length * 1))[j]? = (ts.flatMap intE.f)[j]? := by rw[htk]
   rw[Xni,List.getElem?_map,List.getElem?_eq_getElem hj,List.getElem?_take,if_pos (by omega)] at h1
   simpa using h1
  have hH:Sort.Holds (Value.int .i64) w g 0 ts.toArray:=fun j hj=>by
   have hj':j<ts.length:=by simpa using hj
   have hb:Bk w g 3 cur:=hg;rw[Nat.zero_add];refine ⟨?_,hb.free _⟩;rw[hb.cell,hcell j hj'];simp[hj']
  refine (Tryz.slices_Sort_int g 0 cap ts w hH (Array.getElem?_eq_some_iff.1 hg).1 (by omega)).mono ?_
  rintro e w' ⟨rfl,n,os,rfl⟩;have hS:(ts.mergeSort fun x y=>decide (x≤y)).length=ts.length:=List.length_mergeSort _;obtain ⟨h1,h2⟩:=Xl0 w g 0 n (ts.mergeSort fun x y=>decide (x≤y)).toArray os hg;refine ⟨rfl,⟨by rw[Xan,hS]; rfl,.inr ⟨g,cap,_,rfl,hbg,h1,hnc,hcm,by simp[Sort.putCells,hcs],?_⟩⟩,⟨rfl,rfl,rfl,?_,fun k hk hne=>h2 k hk (fun e=>hne (by rw[e]; rfl))⟩⟩
  ·rw[Xni];apply List.ext_getElem?;intro j;rw[List.getElem?_take,List.getElem?_map]
   by_cases hj:j<ts.length
   ·have hjc:j<cur.size:=(Array.getElem?_eq_some_iff.1 (hcell j hj)).1;rw[if_pos (by omega),Array.getElem?_toList]
    simp[Sort.putCells,hjc,hS,hj]
   ·rw[if_neg (by omega),List.getElem?_eq_none (by rw[hS]; omega)]
    rfl
  ·show _≤((Sort.putRow (Value.int .i64) (Sort.ahead w n) g 0 _).heap ++ os).size;simp[Sort.putRow,Sort.mapBlock,Sort.ahead]
theorem Xtl:(Tryz.prog.info? 216).map (fun i=>(i.zero,i.size,i.bytes))=some (some (.agg #[.int .i64 0,.int .i64 0]),2,16):=by kernel_rfl
theorem Xjm (f:Int→Int):∀(s:Int)(ts:List Int)(t:Int),lvGo f s (ts ++ [t])=lvGo f s ts ++ (if f t=0 then [] else [⟨t,s+(ts.map f).sum+f t⟩])
 | s, [],t=>by
   simp only[List.nil_append,lvGo,List.map_nil,List.sum_nil,Int.add_zero]
 | s,u :: ts,t=>by
   rw[List.cons_append,lvGo,lvGo]
   by_cases h:f u=0
   ·rw[if_pos h,if_pos h,Xjm f s ts t,List.map_cons,List.sum_cons,h,Int.zero_add]
   ·rw[if_neg h,if_neg h,Xjm f (s+f u) ts t,List.map_cons,List.sum_cons,List.cons_append,show s+f u+(ts.map f).sum=s+(f u+(ts.map f).sum) by omega]
theorem Xeg (f:Int→Int):∀(s:Int)(ts:List Int),(lvGo f s ts).length≤ts.length
 | s, [] => Nat.le_refl _
 | s,u :: ts=>by
   have h1:=Xeg f s ts;have h2:=Xeg f (s+f u) ts;rw[lvGo,List.length_cons]
   split
   ·omega
   ·rw[List.length_cons]; omega
theorem Xsp (f:Int→Int){B:Int}(h:∀t, -B≤f t∧f t≤B):∀ts:List Int, -(B * ts.length)≤(ts.map f).sum∧(ts.map f).sum≤B * ts.length
 | [] => by simp
 | t :: ts=>by
   have h1:=Xsp f h ts;have h2:=h t;rw[List.map_cons,List.sum_cons,List.length_cons,Int.natCast_add,Int.mul_add];omega
def Xn6 (f:Int→Int)(S:List Int)(w1:World)(v s i:Value)(wr:World):Prop:=∃k:Nat,k≤S.length∧i = .int .i64 k∧s = .int .i64 (((S.take k).map f).sum)∧Below w1.heap.size w1 wr∧wr.ownsRow w1.heap.size 216 2 v (lvGo f 0 (S.take k)).length ((lvGo f 0 (S.take k)).flatMap lvE.f)
def Xr7 (g0 base:Nat)(l:List Hld)(n:Int)(w:World)(i:Value)(wr:World):Prop:=∃k:Nat,k≤l.length∧i = .int .i64 k∧Below w.heap.size w wr∧base≤wr.heap.size∧Boxed wr (g0+1) 230 (.map (some g0)) ∧ ∃F v,NInv (evL (l.take k) n) F (Xay (evL (l.take k) n))∧IMap wr g0 F∧Boxed wr (g0+1+1) 22 v∧wr.ownsRow base 3 1 v (Xay (evL (l.take k) n)).length ((Xay (evL (l.take k) n)).flatMap intE.f)
theorem Xg3 (B:Option Addr)(cb:Nat)(l:List Hld)(n:Int)(w:World)(hl:SlAt hdE w B l)(hln:l.length≤1000)(hv:∀h ∈ l,(0≤h.size∧h.size≤65536)∧okI h.frm∧okI h.til) :
  Calls Tryz.prog 98 #[.slice B l.length cb,.int .i64 n] w (Xcz lvE (Xae l n) w):=by
 have HL:=Lib.hid hl;have HV:=Lib.hid hv;have hmm := @run_makeMap Tryz.prog;have hmf:=fun (fn:Fn) (first cap:Array Value) (w:World)=>(rfl:(Instr.makeFunc fn first cap).run Tryz.prog w = .ok (.func fn first cap) w)
 have HM0:Hid (IMap (((w.alloc (.map #[] 0)).alloc (.cells #[.map (some w.heap.size)] 230)).alloc (.cells #[.slice none 0 0] 22)) w.heap.size (fun _=>none)):=((IMap.made w).kept (World.grownBy_alloc _ _ none) (by simp)).kept (World.grownBy_alloc _ _ none) (by simp)
 have HB0:Hid (Below w.heap.size w (((w.alloc (.map #[] 0)).alloc (.cells #[.map (some w.heap.size)] 230)).alloc (.cells #[.slice none 0 0] 22))):=(((Below.refl _ _).alloc (Nat.le_refl _) _).alloc (by simp) _).alloc (by simp; omega) _
 have H50:Hid (Boxed (((w.alloc (.map #[] 0)).alloc (.cells #[.map (some w.heap.size)] 230)).alloc (.cells #[.slice none 0 0] 22)) (w.heap.size+1) 230 (.map (some w.heap.size))):=by
  have h:=Boxed.new (w.alloc (.map #[] 0)) 230 (.map (some w.heap.size));rw[World.size_alloc] at h;exact h.alloc _
 have H60:Hid (Boxed (((w.alloc (.map #[] 0)).alloc (.cells #[.map (some w.heap.size)] 230)).alloc (.cells #[.slice none 0 0] 22)) (w.heap.size+1+1) 22 (.slice none 0 0)):=by
  have h:=Boxed.new ((w.alloc (.map #[] 0)).alloc (.cells #[.map (some w.heap.size)] 230)) 22 (.slice none 0 0);rw[World.size_alloc,World.size_alloc] at h;exact h
 have HZ:Hid (w.heap.size+3=(((w.alloc (.map #[] 0)).alloc (.cells #[.map (some w.heap.size)] 230)).alloc (.cells #[.slice none 0 0] 22)).heap.size):=by show _=_; simp
 clear hl hv;go_enter Tryz.func98,Tryz.ntmps98;go_wp2_with fail;clear hmm hmf;generalize ((w.alloc (.map #[] 0)).alloc (.cells #[.map (some w.heap.size)] 230)).alloc (.cells #[.slice none 0 0] 22)=W at HM0 HB0 H50 H60 HZ ⊢;go_loopw [18] (fun i wr=>Xr7 w.heap.size (w.heap.size+3) l n w i wr) (fun i _=>l.length - (intOf i).toNat)
 case atStart=>exact ⟨0,Nat.zero_le _,rfl,HB0.out,Nat.le_of_eq HZ.out,H50.out,_,_,ninv0,HM0.out,H60.out,World.ownsRow_nil _ _ _ _⟩
 case round =>
  obtain ⟨k,hk,rfl,hb,hsz,h5,F,v,hN,hM,h6,hR⟩:=hrel;have HB:=Lib.hid hb;have H5:=Lib.hid h5;have HN:=Lib.hid hN;have HM:=Lib.hid hM;have H6:=Lib.hid h6;have HR:=Lib.hid hR;clear hb h5 hN hM h6 hR
  by_cases hlt:k<l.length
  ·have HEL:Hid (∀L:List Hld,L.length≤1000→(Xay (evL L n)).length≤2000 ∧ ∀h ∈ l,∀t,(∀x ∈ L,x ∈ l) → -1000000000≤chg (evL L n) t∧chg (evL L n) t≤1000000000):=by
    intro L hL;have h1:=Xhq L n;have h2:=Xdb (evL L n);refine ⟨by omega,fun h _ t hs=>?_⟩
    have h3:=Xqt (B:=65536) (by omega) (ev:=evL L n) (fun e he=>by
     obtain ⟨x,hx,_,he⟩:=Xjh.1 he;have:=(HV.out x (hs x hx)).1;rcases he with rfl | rfl
     ·exact ⟨by show _≤x.size; omega,this.2⟩
     ·exact ⟨by show _ ≤ -x.size; omega,by show -x.size≤_; omega⟩) t
    omega
   obtain ⟨b,off,rfl,hr⟩:=(HL.out.below HB.out).one (by omega)
   obtain ⟨r,hrk⟩:∃r,l[k]? = some r:=⟨_,List.getElem?_eq_getElem hlt⟩;have hrg:wr.rangeAt b (off+k * 5) (hdE.f r):=hr k r hrk;have c0:=Tp.rgHd hrg;have hrv:=HV.out r (List.mem_of_getElem? hrk);obtain ⟨⟨hz1,hz2⟩,ho1,ho2⟩:=hrv;have HO:=Lib.hid (And.intro ho1 ho2);have HEV:Hid (evL (l.take (k+1)) n=evL (l.take k) n ++ (if r.node=n then [(r.frm,r.size),(r.til, -r.size)] else [])):=by
    show _=_;rw[take_snoc hrk]; exact Xs7 _ _ _
   have HBD:Hid ((Xay (evL (l.take k) n)).length≤2000 ∧ ∀t, -1000000000≤chg (evL (l.take k) n) t∧chg (evL (l.take k) n) t≤1000000000):=by
    have h:=HEL.out (l.take k) (by rw[List.length_take]; omega)
    exact ⟨h.1,fun t=>h.2 r (List.mem_of_getElem? hrk) t (fun x hx=>List.mem_of_mem_take hx)⟩
   generalize evL (l.take k) n=ev at HN HR HEV HBD;clear hr hrk hrg ho1 ho2 HEL;have HX:Hid (Bk (wr.alloc (.cells (hdA r) 99)) wr.heap.size 99 (hdA r)):=Bk.new _ _ _
   by_cases hc:r.node=n
   ·have e1:(r.node == n)=true:=by simpa using hc
    have HE2:Hid (evL (l.take (k+1)) n=ev ++ [(r.frm,r.size)] ++ [(r.til, -r.size)]):=by
     show _=_;rw[HEV.out,if_pos hc,List.append_assoc]; rfl
    have hvx:v.ownBlock ≠ some wr.heap.size:=fun e=>by have:=(HR.out.lt _ e).2; omega
    have HVX:=Lib.hid hvx;clear hc HEV hvx;go_wp2_with fail;refine (note_any (w.heap.size+1) (w.heap.size+1+1) w.heap.size (w.heap.size+3) F (Xay ev) v r.frm r.size (wr.alloc (.cells (hdA r) 99)) (H5.out.alloc _) (HM.out.kept (World.grownBy_alloc _ _ none) (by simp)) (H6.out.alloc _) (HR.out.alloc _) (by simp; omega) (by have:=HBD.out.1; omega) HO.out.1 (by omega) (by have:=HBD.out.2 r.frm; rw[HN.out.at_]; omega)).mono ?_
    rintro e w4 ⟨rfl,v4,y5,yM,y6,yR,ysz,ykeep,ybel⟩;have HN4:=Lib.hid (HN.out.step r.frm r.size);have HX4:Hid (Bk w4 wr.heap.size 99 (hdA r)):=Xch HX.out (ykeep _ (by simp) (by have:=H6.out.lt; omega) (by have:=HM.out.lt; omega) HVX.out)
    have HB4:Hid (Below w.heap.size w w4):=(HB.out.alloc HB.out.size _).trans (ybel w.heap.size (by omega) (by omega) (Nat.le_refl _))
    have HZ4:Hid (w.heap.size+3≤w4.heap.size):=by show _≤_; simp at ysz; omega
    have Y5:=Lib.hid y5;have YM:=Lib.hid yM;have Y6:=Lib.hid y6;have YR:=Lib.hid yR;clear y5 yM y6 yR ysz ykeep ybel HN HM H5 H6 HR HX HVX HB c0;have d2:=HX4.out.n2;have d3:=HX4.out.n3;have HT4:Hid ((if (F r.frm).isSome then Xay ev else Xay ev ++ [r.frm]).length≤2001):=by
     have:=HBD.out.1;show _≤_
     split
     ·omega
     ·simp; omega
    have HC4:Hid (∀t, -2000000000≤chg (ev ++ [(r.frm,r.size)]) t∧chg (ev ++ [(r.frm,r.size)]) t≤2000000000):=fun t=>by
     have:=HBD.out.2 t;rw[Xnr]
     split <;> omega
    generalize (if (F r.frm).isSome then Xay ev else Xay ev ++ [r.frm])=ts4 at HN4 YR HT4
    generalize putF F r.frm ((F r.frm).getD 0+r.size)=F4 at HN4 YM;generalize ev ++ [(r.frm,r.size)] = ev4 at HN4 HE2 HC4;go_wp2_with fail;refine (note_any (w.heap.size+1) (w.heap.size+1+1) w.heap.size (w.heap.size+3) F4 ts4 v4 r.til (-r.size) w4 Y5.out YM.out Y6.out YR.out HZ4.out (by have:=HT4.out; omega) HO.out.2 (by omega) (by have:=HC4.out r.til; rw[HN4.out.at_]; omega)).mono ?_
    rintro e w5 ⟨rfl,v5,y5,yM,y6,yR,ysz,ykeep,ybel⟩;have HN5:=HN4.out.step r.til (-r.size);have HF:Hid (Xr7 w.heap.size (w.heap.size+3) l n w (.int .i64 (↑k+1)) w5):=by
     refine ⟨k+1,by omega,by go_num,HB4.out.trans (ybel w.heap.size (by omega) (by omega) (Nat.le_refl _)),by have:=HZ4.out; omega,y5,_,v5,?_,yM,y6,?_⟩
     ·rw[HE2.out, ←HN5.1]; exact HN5
     ·rw[HE2.out, ←HN5.1]; exact yR
    clear HN5 y5 yM y6 yR ysz ykeep ybel HN4 Y5 YM Y6 YR HB4 HX4 d2 d3;go_wp2;go_roundw
    case rel=>exact HF.out
    case measure=>simp[intOf]; omega
   ·have e1:(r.node == n)=false:=by simpa using hc
    have HE2:Hid (evL (l.take (k+1)) n=ev):=by
     show _=_;rw[HEV.out,if_neg hc,List.append_nil]
    have HF:Hid (Xr7 w.heap.size (w.heap.size+3) l n w (.int .i64 (↑k+1)) (wr.alloc (.cells (hdA r) 99))):=by
     refine ⟨k+1,by omega,by go_num,HB.out.alloc HB.out.size _,by simp; omega,H5.out.alloc _,F,v,?_,HM.out.kept (World.grownBy_alloc _ _ none) (by simp),H6.out.alloc _,?_⟩
     ·rw[HE2.out]; exact HN.out
     ·rw[HE2.out]; exact HR.out.alloc _
    clear hc HEV HN HM H5 H6 HR;go_wp2;go_roundw
    case rel=>exact HF.out
    case measure=>simp[intOf]; omega
  ·have HT:Hid (l.take k=l):=by show _=_; rw[List.take_of_length_le (by omega)]
   rw[HT.out] at HN HR;have HTL:Hid ((Xay (evL l n)).length≤2000 ∧ ∀t, -200000000≤chg (evL l n) t∧chg (evL l n) t≤200000000):=by
    have h1:=Xhq l n;have h2:=Xdb (evL l n);refine ⟨by omega,fun t=>?_⟩
    have h3:=Xqt (B:=65536) (by omega) (ev:=evL l n) (fun e he=>by
     obtain ⟨x,hx,_,he⟩:=Xjh.1 he;have:=(HV.out x hx).1;rcases he with rfl | rfl
     ·exact ⟨by show _≤x.size; omega,this.2⟩
     ·exact ⟨by show _ ≤ -x.size; omega,by show -x.size≤_; omega⟩) t
    omega
   have HLV:Hid (Xae l n=lvGo (chg (evL l n)) 0 ((Xay (evL l n)).mergeSort)):=rfl;have HTO:Hid (∀t ∈ Xay (evL l n),okI t):=fun t ht=>by
    obtain ⟨e,he,rfl⟩:=Xg0.1 ht;obtain ⟨x,hx,_,he⟩:=Xjh.1 he;rcases he with rfl | rfl
    ·exact (HV.out x hx).2.1
    ·exact (HV.out x hx).2.2
   have c6:=H6.out.cell;generalize evL l n=ev at HN HR HTL HLV HTO;generalize hts:Xay ev=ts at HN HR HTL HLV HTO;clear hts HT;obtain ⟨A6,k6,hv6⟩:=Xh3 HR.out;subst hv6;have HS:=Lib.hid (Xko (w.heap.size+3) (.slice A6 ts.length k6) ts wr HR.out (by have:=HTL.out.1; omega))
   go_wp2_with fail;refine HS.out.mono ?_;rintro e w1 ⟨rfl,hR1,hg1⟩;have hrb:∀j,(Value.slice A6 ts.length k6).ownBlock=some j→w.heap.size+3≤j:=fun j hj=>(HR.out.lt j hj).1;have HB1:Hid (Below w.heap.size w w1):=HB.out.grown hg1 HB.out.size (fun j hj=>by have:=hrb j hj; omega)
   have H51:Hid (Boxed w1 (w.heap.size+1) 230 (.map (some w.heap.size))):=H5.out.kept hg1 (fun e=>by have:=hrb _ e.symm; omega)
   have H61:Hid (Boxed w1 (w.heap.size+1+1) 22 (.slice A6 ts.length k6)):=H6.out.kept hg1 (fun e=>by have:=hrb _ e.symm; omega)
   have HM1:Hid (IMap w1 w.heap.size F):=HM.out.kept hg1 (fun e=>by have:=hrb _ e.symm; omega)
   obtain ⟨S,hS⟩:∃S,S=ts.mergeSort:=⟨_,rfl⟩;have hSl:S.length=ts.length:=by rw[hS,List.length_mergeSort]
   have HSO:Hid (∀t ∈ S,okI t):=fun t ht=>HTO.out t (by rw[hS] at ht; exact List.mem_mergeSort.1 ht)
   rw[←hS] at HLV hR1;have HR1:Hid (w1.ownsRow (w.heap.size+3) 3 1 (.slice A6 S.length k6) S.length (S.flatMap intE.f)):=by rw[hSl]; exact hR1
   have HSA:Hid (SlAt intE w1 A6 S):=by
    obtain ⟨A7,k7,e7,h7,_⟩:=Xah (E:=intE) HR1.out;cases e7;exact h7
   have c6':=H61.out.cell;rw[←hSl] at c6';have c5':=H51.out.cell;have HSL:Hid (S.length≤2000):=by show _≤_; rw[hSl]; exact HTL.out.1
   obtain ⟨i0,hi0,hz0,hz1,hz2⟩:=info_parts Xtl;have HAT:=Lib.hid (fun t=>HN.out.at_ t);have HCB:=Lib.hid HTL.out.2;clear hR1 hg1 hrb HB H5 H6 HM HR HS HN HTL HTO hS hSl c6;go_wp2_with fail;clear c6' c5';go_loopw [10,11,13,44] (fun v s _ i wr=>Xn6 (chg ev) S w1 v s i wr) (fun _ _ _ i _=>S.length - (intOf i).toNat)
   case atStart=>exact ⟨0,Nat.zero_le _,rfl,rfl,Below.refl _ _,World.ownsRow_nil _ _ _ _⟩
   case round =>
    obtain ⟨j,hj,rfl,rfl,hbw,hov⟩:=hrel;have HBW:=Lib.hid hbw;have HOV:=Lib.hid hov;clear hbw hov
    by_cases hjt:j<S.length
    ·obtain ⟨b,off,rfl,hr⟩:=(HSA.out.below HBW.out).one (by omega)
     obtain ⟨t,hrk⟩:∃t,S[j]? = some t:=⟨_,List.getElem?_eq_getElem hjt⟩;have hc0:wr.cell? ⟨b,off+j,none⟩=some (.int .i64 t):=by
      have:=hr j t hrk 0 _ rfl;simpa[intE] using this
     have HMW:Hid (IMap wr w.heap.size F):=HM1.out.below HBW.out HM1.out.lt;have c5':wr.cell? ⟨w.heap.size+1,0,none⟩=some (.map (some w.heap.size)):=(HBW.out.cell (p:=⟨w.heap.size+1,0,none⟩) H51.out.lt).trans H51.out.cell;have HOT:Hid (okI t):=HSO.out t (List.mem_of_getElem? hrk);obtain ⟨q,hq⟩:∃q,chg ev t=q:=⟨_,rfl⟩;have HQ:Hid ((F t).getD 0=q):=(HAT.out t).trans hq;obtain ⟨hq1,hq2⟩:=HCB.out t;rw[hq] at hq1 hq2;have HSN:Hid (lvGo (chg ev) 0 (S.take (j+1))=lvGo (chg ev) 0 (S.take j) ++ (if q=0 then [] else [⟨t,((S.take j).map (chg ev)).sum+q⟩])):=by
      show _=_;rw[take_snoc hrk,Xjm,Int.zero_add,hq]
     have HSM:Hid (((S.take (j+1)).map (chg ev)).sum=((S.take j).map (chg ev)).sum+q):=by
      show _=_;rw[take_snoc hrk,List.map_append,List.sum_append,List.map_cons,List.map_nil,List.sum_cons,List.sum_nil,hq]; omega
     have hsb : -400000000000≤((S.take j).map (chg ev)).sum∧((S.take j).map (chg ev)).sum≤400000000000:=by
      have h1:=Xsp (chg ev) (B:=200000000) HCB.out (S.take j);have h2:(S.take j).length≤2000:=by rw[List.length_take]; have:=HSL.out; omega
      omega
     have HLB:Hid ((lvGo (chg ev) 0 (S.take j)).length≤2000):=by
      show _≤_;have h1:=Xeg (chg ev) 0 (S.take j);have h2:(S.take j).length≤2000:=by rw[List.length_take]; have:=HSL.out; omega
      omega
     obtain ⟨hs1,hs2⟩:=hsb;have hsl:=HSL.out;generalize lvGo (chg ev) 0 (S.take j)=M at HOV HSN HLB;generalize ((S.take j).map (chg ev)).sum=s at HSN HSM hs1 hs2;clear hr hrk hq
     by_cases h0:q=0
     ·have HF:Hid (Xn6 (chg ev) S w1 u10 (.int .i64 s) (.int .i64 (↑j+1)) wr):=by
       refine ⟨j+1,by omega,by go_num,?_,HBW.out,?_⟩
       ·rw[HSM.out,h0,Int.add_zero]
       ·rw[HSN.out,if_pos h0,List.append_nil]; exact HOV.out
      have hb0:(q == 0)=true:=by simpa using h0
      clear h0 HSN HSM;go_wp2_with (at_lookup; refine Xd2 _ rfl _ _ rfl w.heap.size F rfl HMW.out t rfl HOT.out q HQ.out ?_);go_roundw
      case rel=>exact HF.out
      case measure=>simp[intOf]; omega
     ·have hb0:(q == 0)=false:=by simpa using h0
      have HSN2:Hid (lvGo (chg ev) 0 (S.take (j+1))=M ++ [⟨t,s+q⟩]):=by show _=_; rw[HSN.out,if_neg h0]
      have hlb:=HLB.out;clear h0 HSN;go_wp2_with (first
       | (at_lookup; refine Xd2 _ rfl _ _ rfl w.heap.size F rfl HMW.out t rfl HOT.out q HQ.out ?_)
       | (at_builtin; refine wpList_append_own_at _ rfl _ _ 177 rfl w1.heap.size 216 i0 (.agg #[.int .i64 0,.int .i64 0]) 2 16 Tryz.underlying177 hi0 hz0 hz1 hz2 rfl (by decide) _ _ _ rfl (HOV.out.alloc _) ⟨wr.heap.size,0,none⟩ 1 1 [.int .i64 t,.int .i64 (s+q)] rfl rfl ?d1 ?d2 ?d3 ?d4 ?d5 ?_))
      case d1=>exact fun j u hu=>by rw[Addr.add_mid,Nat.zero_add]; exact Xcj _ [.int .i64 t,.int .i64 (s+q)] _ rfl j u hu
      case d2=>exact fun u hu=>lvE.one ⟨t,s+q⟩ u hu
      case d3=>unfold maxLen; omega
      case d4=>omega
      case d5=>have:=HBW.out.size; simp; omega
      intro v' w4 hown' hg' _ _;have HF:Hid (Xn6 (chg ev) S w1 v' (.int .i64 (s+q)) (.int .i64 (↑j+1)) w4):=by
       refine ⟨j+1,by omega,by go_num,?_,(HBW.out.alloc HBW.out.size _).grown hg' (by have:=HBW.out.size; simp; omega) (fun j hj=>(HOV.out.lt j hj).1),?_⟩
       ·rw[HSM.out]
       ·rw[HSN2.out,List.length_append,List.flatMap_append,show [(⟨t,s+q⟩:Lvl)].flatMap lvE.f = [.int .i64 t,.int .i64 (s+q)] from rfl];exact hown'
      clear hown' hg' HSN2 HSM;go_wp2;go_roundw
      case rel=>exact HF.out
      case measure=>simp[intOf]; omega
    ·have HTS:Hid (S.take j=S):=by show _=_; rw[List.take_of_length_le (by omega)]
     rw[HTS.out, ←HLV.out] at HOV;obtain ⟨A9,k9,rfl,x1,x2,x3⟩:=Xab (E:=lvE) HOV.out;have HX1:=Lib.hid x1;have HX3:Hid (∀a,A9=some a→w.heap.size≤a.block):=fun a ha=>by
      have h1:=x3 a ha;have h2:=HB1.out.size;omega
     have HBF:Hid (Below w.heap.size w wr):=Xa HB1.out HBW.out;clear x1 x3 HOV HTS;go_wp2;go_ret;exact ⟨A9,k9,rfl,HX1.out,x2,HX3.out,HBF.out⟩
theorem Xnd (A:Option Addr)(c:Nat)(F:List Lvl)(w:World)(hA:SlAt lvE w A F)(hF:F.length≤1000000) :
  Calls Tryz.prog 97 #[.slice A F.length c] w fun e w' => e = .returned (.int .i64 (Xfi F))∧Below w.heap.size w w':=by
 have HA:=Lib.hid hA;clear hA;go_enter Tryz.func97,Tryz.ntmps97;go_wp2;go_loopw [3,5,8] (fun m _ i wr => ∃k:Nat,k≤F.length∧i = .int .i64 k∧m = .int .i64 (Xfi (F.take k))∧Below w.heap.size w wr) (fun _ _ i _=>F.length - (intOf i).toNat)
 case atStart=>exact ⟨0,Nat.zero_le _,rfl,rfl,Below.refl _ _⟩
 case round =>
  obtain ⟨k,hk,rfl,rfl,hbw⟩:=hrel;have HB:=Lib.hid hbw;clear hbw
  by_cases hlt:k<F.length
  ·obtain ⟨b,off,rfl,hr⟩:=(HA.out.below HB.out).one (by omega)
   obtain ⟨r,hrk⟩:∃r,F[k]? = some r:=⟨_,List.getElem?_eq_getElem hlt⟩;have hrg:wr.rangeAt b (off+k * 2) (lvE.f r):=hr k r hrk;have c0:=Tp.rgLv hrg;have HM:Hid (Xfi (F.take (k+1))=max (Xfi (F.take k)) r.val):=by
    show _=_;rw[take_snoc hrk];unfold Xfi;rw[List.foldl_append]; rfl
   have HBN:Hid (Below w.heap.size w (wr.alloc (.cells #[.int .i64 r.at_,.int .i64 r.val] 216))):=HB.out.alloc HB.out.size _;clear hr hrk hrg;generalize Xfi (F.take k)=m at HM
   by_cases hm:m<r.val
   ·go_wp2;go_roundw
    case rel=>exact ⟨k+1,by omega,by go_num,by rw[HM.out,show max m r.val=r.val by omega],HBN.out⟩
    case measure=>simp[intOf]; omega
   ·go_wp2;go_roundw
    case rel=>exact ⟨k+1,by omega,by go_num,by rw[HM.out,show max m r.val=m by omega],HBN.out⟩
    case measure=>simp[intOf]; omega
  ·have HT:Hid (Xfi (F.take k)=Xfi F):=by show _=_; rw[List.take_of_length_le (by omega)]
   go_wp2;go_ret;exact ⟨Xh2 HT.out,HB.out⟩
theorem Xt {a b:Hld}(h:hdLe a b):hdC a b≤0:=by
 unfold hdLe Xon at h;simp only[cmpL] at h;unfold hdC;simp only[orL];unfold cmpI
 by_cases h1:a.node<b.node
 ·simp[h1]
 ·by_cases h1':b.node<a.node
  ·simp[h1,h1'] at h
  ·by_cases h2:a.frm<b.frm
   ·simp[h1,h1',h2]
   ·by_cases h2':b.frm<a.frm
    ·simp[h1,h1',h2,h2'] at h
    ·by_cases h3:a.til<b.til
     ·simp[h1,h1',h2,h2',h3]
     ·by_cases h3':b.til<a.til
      ·simp[h1,h1',h2,h2',h3,h3'] at h
      ·by_cases h4:a.tick<b.tick
       ·simp[h1,h1',h2,h2',h3,h3',h4]
       ·by_cases h4':b.tick<a.tick
        ·simp[h1,h1',h2,h2',h3,h3',h4,h4'] at h
        ·by_cases h5:a.size<b.size
         ·simp[h1,h1',h2,h2',h3,h3',h4,h4',h5]
         ·by_cases h5':b.size<a.size
          ·simp[h1,h1',h2,h2',h3,h3',h4,h4',h5,h5'] at h
          ·simp[h1,h1',h2,h2',h3,h3',h4,h4',h5,h5']
theorem Xhl (Aq:Option Addr)(cq:Nat)(Ac:Option Addr)(cc:Nat)(p:Pln)(B:Option Addr)(cb:Nat)(l:List Hld)(w:World)(hp:Xas w Aq cq Ac cc p)(hl:SlAt hdE w B l)(hok:Xbe p∧Xm p l) :
  Calls Tryz.prog 77 #[.agg (plA Aq cq Ac cc p),.slice B l.length cb] w fun e w' => e = .returned (.int .i64 0)∧Below w.heap.size w w':=by
 have HP:=Lib.hid hp;have HL:=Lib.hid hl;have HOK:=Lib.hid hok;have hln:l.length≤512:=hok.2.1;have hql:p.q.length≤16:=hok.1.1.2.1;have HB0:Hid (Below w.heap.size w (w.alloc (.cells (plA Aq cq Ac cc p) 25))):=(Below.refl _ _).alloc (Nat.le_refl _) _;have HK:=Lib.hid (Bk.new w 25 (plA Aq cq Ac cc p));have HC:=Lib.hid (fun w h=>Xb2 Aq cq Ac cc p w h);have hgt:¬ (512:Int)<(l.length:Int):=by omega
 clear hp hl hok;go_enter Tryz.func77,Tryz.ntmps77;go_wp2_with fail;generalize w.alloc (.cells (plA Aq cq Ac cc p) 25)=W at HB0 HK ⊢;generalize w.heap.size=g0 at HK ⊢;refine (HC.out _ (HP.out.below HB0.out)).mono ?_;rintro e w1 ⟨q,rfl,hq,hb1⟩;obtain rfl:q=0:=hq.2 HOK.out.1;have HB1:=Lib.hid (Xa HB0.out hb1);have HK1:=Lib.hid (HK.out.below hb1 HK.out.lt);clear hq hb1 HB0 HK HC;go_wp2;clear hgt;generalize hw1:w1=W1 at HB1 HK1 ⊢;clear hw1;go_loopw [5,6,17] (fun _ _ i wr => ∃k:Nat,k≤l.length∧i = .int .i64 k∧Below W1.heap.size W1 wr) (fun _ _ i _=>l.length - (intOf i).toNat)
 case atStart=>exact ⟨0,Nat.zero_le _,rfl,Below.refl _ _⟩
 case round =>
  obtain ⟨k,hk,rfl,hbw⟩:=hrel;obtain ⟨wq,rfl⟩:∃wo:World,wo=wr:=⟨_,rfl⟩;have HB:=Lib.hid hbw;clear hbw
  by_cases hlt:k<l.length
  ·have HLA:=Lib.hid (HL.out.below (Xa HB1.out HB.out));obtain ⟨b,off,rfl,hr⟩:=HLA.out.one (by omega)
   obtain ⟨r,hrk⟩:∃r,l[k]? = some r:=⟨_,List.getElem?_eq_getElem hlt⟩;have HRK:=Lib.hid hrk;have HRA:=Lib.hid hr;have hrg:wq.rangeAt b (off+k * 5) (hdE.f r):=hr k r hrk;obtain ⟨c0,c1,c2,c3,c4⟩:=Tp.rgHd hrg;have HV:=Lib.hid (fun w=>Xhk Aq cq Ac cc p r w);have HHO:Hid (Xca p r):=HOK.out.2.2.1 r (List.mem_of_getElem? hrk);have HKN:=Lib.hid (Bk.new wq 99 (hdA r));have HBN:Hid (Below wq.heap.size wq (wq.alloc (.cells (hdA r) 99))):=(Below.refl _ _).alloc (Nat.le_refl _) _;have HKP:Hid (Bk (wq.alloc (.cells (hdA r) 99)) g0 25 (plA Aq cq Ac cc p)):=HK1.out.below (Xa HB.out HBN.out) HK1.out.lt;obtain ⟨p0',p1'⟩:=HKP.out.c2;clear hr hrk hrg;go_wp2_with fail;generalize wq.alloc (.cells (hdA r) 99)=W2 at HKN HBN HKP p0' p1' ⊢;generalize hg1:wq.heap.size=g1 at HKN ⊢;clear hg1 c0 c1 c2 c3 c4 p0' p1';refine (HV.out _).mono ?_;rintro e w4 ⟨v,rfl,hv,hb4⟩;obtain rfl:v=true:=hv.2 HHO.out;have HB4:=Lib.hid (Xa (Xa HB.out HBN.out) hb4);have HK4:=Lib.hid (HKN.out.below hb4 HKN.out.lt);have HRX:Hid (∀i y,l[i]? = some y→w4.rangeAt b (off+i * 5) (hdE.f y)):=fun i y h=>Xa3 (HRA.out i y h) (Xa HBN.out hb4);clear hv hb4 HV HKN HBN HKP HHO;cases k with
   | zero =>
     rw[show ((0:Nat):Int)=0 from rfl];have hz0:decide ((0:Int) > 0)=false:=by decide
     go_wp2_with fail;go_quiet (fail);go_wp2;go_roundw
     case rel=>exact ⟨0+1,by omega,by go_num,Xa4 HB4.out _⟩
     case measure=>simp[intOf]; omega
   | succ j =>
     obtain ⟨x,hx⟩:∃x,l[j]? = some x:=⟨_,List.getElem?_eq_getElem (by omega)⟩
     have HX:=Lib.hid hx;have HXR:=Lib.hid (HRX.out j x hx);have HCM:=Lib.hid (fun w=>Xfp x r w);have hjl:(j:Int)<(l.length:Int):=by omega
     have hjl1:(j:Int)+1<(l.length:Int):=by omega
     have hj0:(0:Int)≤(j:Int):=by omega
     have hj1:(0:Int)≤(j:Int)+1:=by omega
     have hjt:((j:Int)+1).toNat=j+1:=by omega
     have hjb:decide (((j:Int)+1) > 0)=true:=decide_eq_true (by omega)
     have hjw:IntKind.i64.wrap ((j:Int)+1 - 1)=(j:Int):=by rw[IntWalk.i64_in _ (by omega)]; omega
     have hjw2:IntKind.i64.wrap (j:Int)=(j:Int):=IntWalk.i64_in _ (by omega)
     rw[show ((j+1:Nat):Int)=(j:Int)+1 by omega]
     have HD2:Hid (∀w',Below w4.heap.size w4 w' → (w'.cell? ⟨g1,0,none⟩=some (.int .i64 r.node)∧w'.cell? ⟨g1,1,none⟩=some (.int .i64 r.frm)∧w'.cell? ⟨g1,2,none⟩=some (.int .i64 r.til)∧w'.cell? ⟨g1,3,none⟩=some (.int .i64 r.size)∧w'.cell? ⟨g1,4,none⟩=some (.int .i64 r.tick))∧(w'.cell? ⟨b,off+j * 5,none⟩=some (.int .i64 x.node)∧w'.cell? ⟨b,off+j * 5+1,none⟩=some (.int .i64 x.frm)∧w'.cell? ⟨b,off+j * 5+2,none⟩=some (.int .i64 x.til)∧w'.cell? ⟨b,off+j * 5+3,none⟩=some (.int .i64 x.size)∧w'.cell? ⟨b,off+j * 5+4,none⟩=some (.int .i64 x.tick))):=fun w' hb' => by
      have h4:=HK4.out.below hb' HK4.out.lt;have h5:=Xa3 HXR.out hb';exact ⟨⟨h4.cell 0,h4.cell 1,h4.cell 2,h4.cell 3,h4.cell 4⟩,⟨h5 0 _ rfl,h5 1 _ rfl,h5 2 _ rfl,h5 3 _ rfl,h5 4 _ rfl⟩⟩
     have HCZ:hdC x r≤0:=Xt (Xmc HOK.out.2.2.2.1 HX.out HRK.out);generalize hdC x r=cz at HCM HCZ;have e1:decide (cz > 0)=false:=by simpa using HCZ
     clear hx HCZ;go_wp2_with fail;go_region_held3 (fun w' => ((w'.cell? ⟨g1,0,none⟩=some (.int .i64 r.node)∧w'.cell? ⟨g1,1,none⟩=some (.int .i64 r.frm)∧w'.cell? ⟨g1,2,none⟩=some (.int .i64 r.til)∧w'.cell? ⟨g1,3,none⟩=some (.int .i64 r.size)∧w'.cell? ⟨g1,4,none⟩=some (.int .i64 r.tick))∧(w'.cell? ⟨b,off+j * 5,none⟩=some (.int .i64 x.node)∧w'.cell? ⟨b,off+j * 5+1,none⟩=some (.int .i64 x.frm)∧w'.cell? ⟨b,off+j * 5+2,none⟩=some (.int .i64 x.til)∧w'.cell? ⟨b,off+j * 5+3,none⟩=some (.int .i64 x.size)∧w'.cell? ⟨b,off+j * 5+4,none⟩=some (.int .i64 x.tick)))∧Hid (Below w4.heap.size w4 w')) (((try go_split_ands); first | exact Xa7 HD2 (Below.refl _ _).drew | exact Xaw HD2 (by assumption) hb5))
      ((go_at_call 94
        refine (HCM.out _).mono ?_;rintro e w5 ⟨rfl,hb5⟩))
     have HBF:Hid (Below w4.heap.size w4 w5):=by (try go_split_ands); assumption
     have HBW:=Lib.hid (Xa HB4.out HBF.out);clear HD2 HBF;go_wp2;go_roundw
     case rel=>exact ⟨j+1+1,by omega,by go_num,HBW.out⟩
     case measure=>simp[intOf]; omega
  ·have HBQ:=Lib.hid (Xa HB1.out HB.out);have HKQ:=Lib.hid (HK1.out.below HB.out HK1.out.lt);have HMO:=Lib.hid (fun A c F w hA hF=>Xnd A c F w hA hF);have HLV:=Lib.hid (fun n w hl=>Xg3 B cb l n w hl (by omega) (fun h hh=>by
    have:=HOK.out.2.2.1 h hh;unfold Xca at this;exact ⟨by omega,Xik (by omega) (by omega),Xik (by omega) (by omega)⟩))
   have q0:=HKQ.out.cell 0;clear HB;go_wp2_with fail;clear q0;go_loopw [7,8,42] (fun _ _ i wr => ∃k:Nat,k≤p.q.length∧i = .int .i64 k∧Below wq.heap.size wq wr) (fun _ _ i _=>p.q.length - (intOf i).toNat)
   case atStart=>exact ⟨0,Nat.zero_le _,rfl,Below.refl _ _⟩
   case round =>
    obtain ⟨n,hn,rfl,hbw⟩:=hrel;have HB:=Lib.hid (Xa HBQ.out hbw);have HB2:=Lib.hid hbw;clear hbw
    by_cases hnt:n<p.q.length
    ·obtain ⟨b,off,rfl,hr⟩:=(HP.out.q.below HB.out).one (by omega)
     obtain ⟨x,hx⟩:∃x,p.q[n]? = some x:=⟨_,List.getElem?_eq_getElem hnt⟩;have hc0:wr.cell? ⟨b,off+n,none⟩=some (.int .i64 x):=by
      have:=hr n x hx 0 _ rfl;simpa[intE] using this
     have HX0:Hid (Xfi (Xae l n)≤x):=by
      have h1:=HOK.out.1.2.1 x (List.mem_of_getElem? hx);exact (Xq3 (fun h hh=>by have:=HOK.out.2.2.1 h hh; unfold Xca at this; omega) h1.1).2 (HOK.out.2.2.2.2 n x hx)
     clear hr hx;go_wp2_with fail;refine (HLV.out (n:Int) _ (HL.out.below HB.out)).mono ?_;rintro e w2 ⟨A2,c2,rfl,hs2,hc2,hbk2,hb2⟩;have HS2:=Lib.hid hs2;have HB3:=Lib.hid (Xa HB2.out hb2);have hll:(Xae l n).length≤1000000:=by
      have h1:=Xeg (chg (evL l n)) 0 (Xgi (evL l n));have h2:(Xgi (evL l n)).length=(Xay (evL l n)).length:=List.length_mergeSort _;have h3:=Xdb (evL l n);have h4:=Xhq l n;rw[←Xei] at h1;omega
     clear hs2 hc2 hbk2 hb2 hc0;go_wp2_with fail;refine (HMO.out A2 c2 (Xae l n) _ HS2.out hll).mono ?_;rintro e w3 ⟨rfl,hb3⟩;have HB4:=Lib.hid (Xa HB3.out hb3);have hx0:¬ x<Xfi (Xae l n):=by have:=HX0.out; omega
     clear hb3 hll;go_wp2;go_roundw
     case rel=>exact ⟨n+1,by omega,by go_num,HB4.out⟩
     case measure=>simp[intOf]; omega
    ·go_wp2;go_ret;exact ⟨rfl,HB.out⟩
end Go.Proofs.YtebkgbmijocdjaaGreat.Tp
