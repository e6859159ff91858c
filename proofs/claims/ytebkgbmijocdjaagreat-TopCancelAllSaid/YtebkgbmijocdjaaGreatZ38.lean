/- A part of the proof for the ledger. No condition beyond those that each theorem states. -/
import Derived.Test.YtebkgbmijocdjaaGreatZ37
set_option maxHeartbeats 32000000
set_option maxRecDepth 100000
set_option linter.unusedVariables false
set_option linter.unusedSimpArgs false
namespace Go.Proofs.YtebkgbmijocdjaaGreat.Tp
open Go Go.RowKit
theorem Xir (x:Bkg):∀(L:List Bkg)(a:Nat)(r:List Value),a<L.length→((((L.flatMap bkE.f ++ r).set (a * 4) (.int .i64 x.ct)).set (a * 4+1) (.int .i64 x.beg)).set (a * 4+2) (.int .i64 x.fin)).set (a * 4+3) (.int .i64 x.tick)=(L.set a x).flatMap bkE.f ++ r
 | [],a,r,h=>by simp at h
 | y :: L,0,r,_=>rfl
 | y :: L,a+1,r,h=>by
   have ih:=Xir x L a r (by simpa using h)
   have e:∀j,(a+1) * 4+j=(a * 4+j)+1+1+1+1:=fun j=>by omega
   rw[List.set_cons_succ,show ((a+1) * 4)=(a * 4)+1+1+1+1 by omega,show ((y :: L).flatMap bkE.f ++ r) = .int .i64 y.ct :: .int .i64 y.beg :: .int .i64 y.fin :: .int .i64 y.tick :: (L.flatMap bkE.f ++ r) from rfl,
    show ((y :: L.set a x).flatMap bkE.f ++ r) = .int .i64 y.ct :: .int .i64 y.beg :: .int .i64 y.fin :: .int .i64 y.tick :: ((L.set a x).flatMap bkE.f ++ r) from rfl, ←ih]
   have f:∀j,(a * 4)+1+1+1+1+j=(a * 4+j)+1+1+1+1:=fun j=>by omega
   simp only[f,List.set_cons_succ]
def RowB (w:World)(g cap:Nat)(L:List Bkg):Prop:=∃r:List Value,Bk w g 95 (L.flatMap bkE.f ++ r).toArray∧L.length * 4+r.length=cap * 4
theorem RowB.put {w:World}{g cap a:Nat}{L:List Bkg}(h:RowB w g cap L)(ha:a<L.length)(x:Bkg) :
  RowB ((((w.setCell ⟨g,a * 4,none⟩ (.int .i64 x.ct)).setCell ⟨g,a * 4+1,none⟩ (.int .i64 x.beg)).setCell ⟨g,a * 4+2,none⟩ (.int .i64 x.fin)).setCell ⟨g,a * 4+3,none⟩ (.int .i64 x.tick)) g cap (L.set a x):=by
 obtain ⟨r,hb,hr⟩:=h;refine ⟨r,?_,by rw[List.length_set]; exact hr⟩
 have h4:=(((hb.put (a * 4) (.int .i64 x.ct)).put (a * 4+1) (.int .i64 x.beg)).put (a * 4+2) (.int .i64 x.fin)).put (a * 4+3) (.int .i64 x.tick);simp only[List.setIfInBounds_toArray] at h4
 rwa [Xir x L a r ha] at h4
theorem RowB.cells {w:World}{g cap:Nat}{L:List Bkg}(h:RowB w g cap L){k:Nat}{x:Bkg}(hk:L[k]? = some x):w.rangeAt g (k * 4) (bkE.f x):=by
 obtain ⟨r,hb,hr⟩:=h;intro j v hj;have h1:=flat_get (E:=bkE) L k x hk j v hj;have hlt:k * 4+j<(L.flatMap bkE.f).length:=(List.getElem?_eq_some_iff.1 h1).1;rw[hb.cell,List.getElem?_toArray,List.getElem?_append_left hlt];exact h1
theorem RowB.free {w:World}{g cap:Nat}{L:List Bkg}(h:RowB w g cap L)(i:Nat):w.frozen? ⟨g,i,none⟩=false:=by
 obtain ⟨r,hb,hr⟩:=h;exact hb.free i
theorem RowB.grown {w w':World}{g cap:Nat}{L:List Bkg}(h:RowB w g cap L){row:Option Nat}(hg:w.grownBy w' row)(hn:some g ≠ row):RowB w' g cap L:=by
 obtain ⟨r,hb,hr⟩:=h;exact ⟨r,hb.grown hg hn,hr⟩
theorem RowB.below {w w':World}{g cap:Nat}{L:List Bkg}(h:RowB w g cap L)(hb:Below w.heap.size w w'):RowB w' g cap L:=by
 obtain ⟨r,hb',hr⟩:=h;exact ⟨r,hb'.below hb hb'.lt,hr⟩
theorem RowB.lt {w:World}{g cap:Nat}{L:List Bkg}(h:RowB w g cap L):g<w.heap.size:=by
 obtain ⟨r,hb,hr⟩:=h;exact hb.lt
theorem Xpt {w:World}{base:Nat}{v:Value}{L:List Bkg}(h:w.ownsRow base 95 4 v L.length (L.flatMap bkE.f))(hL:L ≠ []):∃g cap,v = .slice (some ⟨g,0,none⟩) L.length cap∧base≤g∧L.length≤cap∧cap≤maxLen∧RowB w g cap L:=by
 obtain ⟨hl,h | ⟨g,cap,cur,rfl,hb,hg,hn,hm,hc,ht⟩⟩:=h
 ·exact absurd (List.eq_nil_of_length_eq_zero h.2) hL
 ·refine ⟨g,cap,rfl,hb,hn,hm,cur.toList.drop (L.length * 4),?_,?_⟩
  ·have e:L.flatMap bkE.f ++ cur.toList.drop (L.length * 4)=cur.toList:=by
    conv=>rhs; rw[←List.take_append_drop (L.length * 4) cur.toList]
    rw[ht]
   rw[e];exact hg
  ·have h1:cur.toList.length=cap * 4:=by rw[Array.length_toList]; exact hc
   rw[List.length_drop,h1];omega
def DelB (p:Bkg→Bool)(l L:List Bkg)(a m:Nat):Prop:=L.length=l.length∧a<m∧m≤l.length∧L.take a=(l.take m).filter p∧L.drop m=l.drop m
theorem DelB.at_ {p:Bkg→Bool}{l L:List Bkg}{a m:Nat}{y:Bkg}(h:DelB p l L a m)(hy:l[m]? = some y):L[m]? = some y:=by
 have h1:=congrArg (·[0]?) h.2.2.2.2;simp only[List.getElem?_drop,Nat.add_zero] at h1;rw[h1]; exact hy
theorem DelB.skip {p:Bkg→Bool}{l L:List Bkg}{a m:Nat}{y:Bkg}(h:DelB p l L a m)(hy:l[m]? = some y)(hp:p y=false):DelB p l L a (m+1):=by
 have hm:=(List.getElem?_eq_some_iff.1 hy).1;refine ⟨h.1,by have:=h.2.1; omega,by omega,?_,?_⟩
 ·rw[take_snoc hy,List.filter_append, ←h.2.2.2.1];simp[hp]
 ·rw[←List.drop_drop, ←List.drop_drop,h.2.2.2.2]
theorem DelB.keep {p:Bkg→Bool}{l L:List Bkg}{a m:Nat}{y:Bkg}(h:DelB p l L a m)(hy:l[m]? = some y)(hp:p y=true):DelB p l (L.set a y) (a+1) (m+1):=by
 have hm:=(List.getElem?_eq_some_iff.1 hy).1;have ha:=h.2.1;have hl:=h.1;refine ⟨by rw[List.length_set]; exact h.1,by omega,by omega,?_,?_⟩
 ·rw[take_snoc hy,List.filter_append, ←h.2.2.2.1,take_snoc (r:=y) (by rw[List.getElem?_set_self (by omega)]),List.take_set_of_le (by omega)]
  simp[hp]
 ·rw[List.drop_set_of_lt (by omega), ←List.drop_drop, ←List.drop_drop,h.2.2.2.2]
theorem Xit {p:Bkg→Bool}{l:List Bkg}{k:Nat}{y:Bkg}(hy:l[k]? = some y)(hp:p y=false)(hn:∀x ∈ l.take k,p x=true):DelB p l l k (k+1):=by
 have hm:=(List.getElem?_eq_some_iff.1 hy).1;refine ⟨rfl,by omega,by omega,?_,rfl⟩
 rw[take_snoc hy,List.filter_append,List.filter_eq_self.2 hn];simp[hp]
theorem DelB.end_ {p:Bkg→Bool}{l L:List Bkg}{a:Nat}(h:DelB p l L a l.length):L.take a=l.filter p:=by
 have:=h.2.2.2.1
 rwa [List.take_length] at this
theorem Xf9 (w:World)(ty:TypeId)(g cap a n c:Nat)(L:List Bkg)(h:RowB w g cap L)(hn:L.length=n)(ha:a<n) :
  (Builtin.clear_ #[26] ty #[.slice (some ⟨g,a * 4,none⟩) (n - a) c]).run Tryz.prog w = .ok (.tuple #[]) (w.setCells g (a * 4) (Builtin.zeroCells z4 (n - a)).toList):=by
 have hzv:∀w,(zeroValue 95).run Tryz.prog w = .ok (.agg z4) w:=fun w=>by kernel_rfl
 obtain ⟨r,hb,hr⟩:=h;have hfl:=Xan (E:=bkE) L;rw[show bkE.k=4 from rfl] at hfl;have hzl:(Builtin.zeroCells z4 (n - a)).toList.length=(n - a) * 4:=by simp[Builtin.zeroCells]
 have hst:=run_storeCells_cells (P:=Tryz.prog) g (a * 4) (Builtin.zeroCells z4 (n - a)).toList 0 w (fun j hj=>by
   rw[hb.cell,List.getElem?_toArray,List.getElem?_eq_getElem (by rw[List.length_append,hfl]; omega)]; rfl) (fun j hj=>hb.free _) (fun v hv=>by
   simp only[Builtin.zeroCells,Array.toList_map,List.mem_map] at hv;obtain ⟨i,-,rfl⟩:=hv;have h4:i % z4.size<4:=Nat.mod_lt _ (by decide)
   match i % z4.size,h4 with
   | 0,_=>rfl
   | 1,_=>rfl
   | 2,_=>rfl
   | 3,_=>rfl)
 rw[Nat.add_zero] at hst;obtain ⟨m,hm⟩:∃m,n - a=m+1:=⟨n - a - 1,by omega⟩
 rw[hm] at hst ⊢;simp[Builtin.clear_,run_underlying Tryz.underlying26,hzv,Value.cells,hst]
theorem Xn8 (A:Option Addr)(cA:Nat)(l:List Bkg)(X:Nat)(Y:Nat)(p:Bkg→Prop)(w:World)(hA:SlAt bkE w A l)(hl:l.length≤1000000)(hF:∀x ∈ l,∀w',Below w.heap.size w w' → Calls Tryz.prog 115 #[.agg #[.int .i64 x.ct,.int .i64 x.beg,.int .i64 x.fin,.int .i64 x.tick],.pointer (some ⟨X,0,none⟩),.pointer (some ⟨Y,0,none⟩)] w' (Xap (p x) w')) :
  Calls Tryz.prog 158 #[.slice A l.length cA,.func (.func 115) #[] #[.pointer (some ⟨X,0,none⟩),.pointer (some ⟨Y,0,none⟩)]] w (Xdu p l w):=by
 have HA:=Lib.hid hA;have HF:=Lib.hid hF;clear hA hF;go_enter Tryz.func158,Tryz.ntmps158;go_wp2;go_loopw [5,8] (fun _ i wr => ∃k:Nat,k≤l.length∧i = .int .i64 k∧Below w.heap.size w wr ∧ ∀x ∈ l.take k,¬ p x) (fun _ i _=>l.length - (intOf i).toNat)
 case atStart=>exact ⟨0,Nat.zero_le _,rfl,Below.refl _ _,by simp⟩
 case round =>
  obtain ⟨k,hk,rfl,hbw,hno⟩:=hrel;have HB:=Lib.hid hbw;have HNO:=Lib.hid hno;clear hbw hno
  by_cases hlt:k<l.length
  ·obtain ⟨b,off,rfl,hr⟩:=HA.out.one (by omega)
   obtain ⟨r,hrk⟩:∃r,l[k]? = some r:=⟨_,List.getElem?_eq_getElem hlt⟩;have HRK:=Lib.hid hrk;have hrg:wr.rangeAt b (off+k * 4) (bkE.f r):=Xa3 (hr k r hrk) HB.out;have c0:=Tp.rgBk hrg;have HCL:=Lib.hid (HF.out r (List.mem_of_getElem? hrk) wr HB.out);clear hr hrk hrg;go_wp2_with fail;refine HCL.out.mono ?_;rintro e w2 ⟨v,rfl,hv,hb2⟩;have HB2:=Lib.hid (Xa HB.out hb2);have HV:=Lib.hid hv;clear hb2 HCL hv c0;cases v with
   | false =>
     have HN:Hid (∀x ∈ l.take (k+1),¬ p x):=by
      intro x hx;rw[take_snoc HRK.out] at hx;rcases List.mem_append.1 hx with h | h
      ·exact HNO.out x h
      ·rw[List.mem_singleton.1 h];intro hp;have:=HV.out.2 hp;cases this
     go_wp2;go_roundw
     case rel=>exact ⟨k+1,by omega,by go_num,HB2.out,HN.out⟩
     case measure=>simp[intOf]; omega
   | true =>
     have HP:=Lib.hid (HV.out.1 rfl);go_wp2;go_ret;exact ⟨_,rfl,.inr ⟨k,r,rfl,HRK.out,HP.out,HNO.out⟩,HB2.out⟩
  ·have HN:Hid (∀x ∈ l,¬ p x):=by
    intro x hx;refine HNO.out x ?_;rw[List.take_of_length_le (by omega)]
    exact hx
   go_wp2;go_ret;exact ⟨_,rfl,.inl ⟨rfl,HN.out⟩,HB.out⟩
theorem Xrc (X Y base:Nat)(pd:Bkg→Bool)(v:Value)(l:List Bkg)(w:World)(hrow:w.ownsRow base 95 4 v l.length (l.flatMap bkE.f))(hbs:base≤w.heap.size)(hF:∀y ∈ l,∀w',w.grownBy w' v.ownBlock→Calls Tryz.prog 115 #[.agg #[.int .i64 y.ct,.int .i64 y.beg,.int .i64 y.fin,.int .i64 y.tick],.pointer (some ⟨X,0,none⟩),.pointer (some ⟨Y,0,none⟩)] w' (Xap (pd y=true) w'))(hl:l.length≤1000000) :
  Calls Tryz.prog 114 #[v,.func (.func 115) #[] #[.pointer (some ⟨X,0,none⟩),.pointer (some ⟨Y,0,none⟩)]] w fun e w' =>
   ∃v',e = .returned v' ∧ w'.ownsRow base 95 4 v' (l.filter fun y => !pd y).length ((l.filter fun y => !pd y).flatMap bkE.f)∧v'.ownBlock=v.ownBlock∧w.grownBy w' v.ownBlock:=by
 by_cases hne:l = []
 ·subst hne;obtain ⟨A,c,rfl⟩:=Xa8 hrow;have HR:=Lib.hid hrow;have hIX:=Lib.hid (Xn8 A c [] X Y (fun y=>pd y=true) w (SlAt.nil _ _) (by simp) (by simp))
  clear hrow hF;go_enter Tryz.func114,Tryz.ntmps114;go_wp2_with fail;refine hIX.out.mono ?_;rintro e w1 ⟨z,rfl,hz,hb1⟩;obtain rfl:z = -1:=by
   rcases hz with ⟨h,_⟩ | ⟨k,r,_,h,_⟩
   ·exact h
   ·simp at h
  have HR1:=Lib.hid (Xa6 HR.out hb1);have HG1:Hid (w.grownBy w1 (Value.slice A 0 c).ownBlock):=grown_below hb1 _;clear hz hb1 hIX;go_wp2;go_ret;exact ⟨_,rfl,HR1.out,rfl,HG1.out⟩
 obtain ⟨g,cap,rfl,hbg,hlc,hcm,hR⟩:=Xpt hrow hne;have hIX:=Lib.hid (Xn8 (some ⟨g,0,none⟩) cap l X Y (fun y=>pd y=true) w (fun k r hk=>⟨g,0,rfl,by rw[Nat.zero_add]; exact hR.cells hk⟩) (by omega) (fun y hy w' hb=>hF y hy w' (grown_below hb _)))
 have HF0:Hid (∀y ∈ l,∀w',w.grownBy w' (some g)→Calls Tryz.prog 115 #[.agg #[.int .i64 y.ct,.int .i64 y.beg,.int .i64 y.fin,.int .i64 y.tick],.pointer (some ⟨X,0,none⟩),.pointer (some ⟨Y,0,none⟩)] w' (Xap (pd y=true) w')):=hF;have HR:=Lib.hid hR;have HRW:=Lib.hid hrow;have HN:Hid (base≤g∧l.length≤cap∧cap≤maxLen):=⟨hbg,hlc,hcm⟩;have hc1:(cap:Int)≤9223372036854775807:=by unfold maxLen at hcm; omega
 clear hrow hF hne hR hbg hcm hbs;go_enter Tryz.func114,Tryz.ntmps114;go_wp2_with fail;refine hIX.out.mono ?_;rintro e w1 ⟨z,rfl,hz,hb1⟩;rcases hz with ⟨rfl,hno⟩ | hz
 ·have HR1:=Lib.hid (Xa6 HRW.out hb1);have HG1:Hid (w.grownBy w1 (Value.slice (some ⟨g,0,none⟩) l.length cap).ownBlock):=grown_below hb1 _;have HFI:Hid (l.filter (fun y => !pd y)=l):=by
   show _=_;rw[List.filter_eq_self];intro y hy;have:=hno y hy;simpa using this
  clear hno hb1 hIX;go_wp2;go_ret;rw[HFI.out];exact ⟨_,rfl,HR1.out,rfl,HG1.out⟩
 clear HRW;obtain ⟨k,r,rfl,hrk,hpr,hno⟩:∃(k:Nat) (r:Bkg),z=(k:Int)∧l[k]? = some r∧pd r=true ∧ ∀y ∈ l.take k,¬ pd y=true:=hz;have hkl:k<l.length:=(List.getElem?_eq_some_iff.1 hrk).1;have HD:Hid (DelB (fun y => !pd y) l l k (k+1)):=Xit hrk (by rw[hpr]; rfl) (fun y hy=>by
  have:=hno y hy;simpa using this)
 have HR1:=Lib.hid (HR.out.below hb1);have HG1:Hid (w.grownBy w1 (some g)):=grown_below hb1 _;have hz1:((k:Int) == -1)=false:=by rw[beq_eq_false_iff_ne]; omega
 clear hb1 hIX HR hrk hpr hno;go_wp2
 try rw[hz1]
 try clear hz1
 go_loopw [5,6,7] (fun i j _ wr => ∃(a m:Nat) (L:List Bkg),i = .int .i64 a∧j = .int .i64 m∧DelB (fun y => !pd y) l L a m∧RowB wr g cap L∧w.grownBy wr (some g)) (fun _ j _ _=>l.length - (intOf j).toNat)
 case atStart=>exact ⟨k,k+1,l,rfl,by go_num,HD.out,HR1.out,HG1.out⟩
 case round =>
  obtain ⟨a,m,L,rfl,rfl,hd,hR,hG⟩:=hrel;have HD:=Lib.hid hd;have HR:=Lib.hid hR;have HG:=Lib.hid hG;have hml:m≤l.length:=hd.2.2.1;have ham:a<m:=hd.2.1;have hll:L.length=l.length:=hd.1;clear hd hR hG HR1 HG1
  by_cases hlt:m<l.length
  ·obtain ⟨y,hy⟩:∃y,l[m]? = some y:=⟨_,List.getElem?_eq_getElem hlt⟩;have hLy:=HD.out.at_ hy;have HY:=Lib.hid hy;have hrg:=HR.out.cells hLy;have c0:wr.cell? ⟨g,m * 4,none⟩=some (.int .i64 y.ct):=hrg 0 _ rfl;have c1:wr.cell? ⟨g,m * 4+1,none⟩=some (.int .i64 y.beg):=hrg 1 _ rfl;have c2:wr.cell? ⟨g,m * 4+2,none⟩=some (.int .i64 y.fin):=hrg 2 _ rfl;have c3:wr.cell? ⟨g,m * 4+3,none⟩=some (.int .i64 y.tick):=hrg 3 _ rfl;have hm3:(0:Int)≤(m:Int):=by omega
   have hm4:(m:Int)<(l.length:Int):=by omega
   obtain ⟨_,_,rfl,rfl,-,HBX,HCB⟩:=box1 wr 95 (bkA y);have v0:=HCB.out.c4;have HR2:=Lib.hid (HR.out.below HBX.out);have HG2:Hid (w.grownBy (wr.alloc (.cells (bkA y) 95)) (some g)):=HG.out.trans (grown_below HBX.out _);have HCL:=Lib.hid (HF0.out y (List.mem_of_getElem? hy) _ HG2.out);clear hy hLy hrg HR HG HBX;go_wp2_with fail;generalize (wr.alloc (.cells (bkA y) 95))=W at HCB HR2 HG2 HCL ⊢;generalize wr.heap.size=B at HCB ⊢;refine HCL.out.mono ?_;rintro e w5 ⟨bv,rfl,hbv,hbl⟩;have HCB5:=Lib.hid (HCB.out.below hbl HCB.out.lt);have HR5:=Lib.hid (HR2.out.below hbl);have HG5:Hid (w.grownBy w5 (some g)):=HG2.out.trans (grown_below hbl _);have HBV:=Lib.hid hbv;clear hbv hbl HCB HR2 HG2 HCL c0 c1 c2 c3 v0;cases bv with
   | true =>
     have HD2:=Lib.hid (HD.out.skip HY.out (by rw[HBV.out.1 rfl]; rfl))
     go_wp2;go_roundw
     case rel=>exact ⟨a,m+1,L,rfl,by go_num,HD2.out,HR5.out,HG5.out⟩
     case measure=>simp[intOf]; omega
   | false =>
     have hs:pd y=false:=by
      cases h:pd y with
      | false=>rfl
      | true=>have:=HBV.out.2 h; cases this
     have HD2:=Lib.hid (HD.out.keep HY.out (by rw[hs]; rfl))
     have v0:=HCB5.out.c4;obtain ⟨r,hr⟩:∃r,L[a]? = some r:=⟨_,List.getElem?_eq_getElem (by omega)⟩
     have hrg:=HR5.out.cells hr;have c0:w5.cell? ⟨g,a * 4,none⟩=some (.int .i64 r.ct):=hrg 0 _ rfl;have c1:w5.cell? ⟨g,a * 4+1,none⟩=some (.int .i64 r.beg):=hrg 1 _ rfl;have c2:w5.cell? ⟨g,a * 4+2,none⟩=some (.int .i64 r.fin):=hrg 2 _ rfl;have c3:w5.cell? ⟨g,a * 4+3,none⟩=some (.int .i64 r.tick):=hrg 3 _ rfl;have f0:w5.frozen? ⟨g,a * 4,none⟩=false:=HR5.out.free _;have f1:w5.frozen? ⟨g,a * 4+1,none⟩=false:=HR5.out.free _;have f2:w5.frozen? ⟨g,a * 4+2,none⟩=false:=HR5.out.free _;have f3:w5.frozen? ⟨g,a * 4+3,none⟩=false:=HR5.out.free _;have HR6:=Lib.hid (HR5.out.put (a:=a) (by omega) y)
     have HG6:Hid (w.grownBy ((((w5.setCell ⟨g,a * 4,none⟩ (.int .i64 y.ct)).setCell ⟨g,a * 4+1,none⟩ (.int .i64 y.beg)).setCell ⟨g,a * 4+2,none⟩ (.int .i64 y.fin)).setCell ⟨g,a * 4+3,none⟩ (.int .i64 y.tick)) (some g)) :=
      ((((HG5.out.trans (Xa0 _ _ _ _)).trans (Xa0 _ _ _ _)).trans (Xa0 _ _ _ _)).trans (Xa0 _ _ _ _))
     have ha3:(0:Int)≤(a:Int):=by omega
     have ha4:(a:Int)<(l.length:Int):=by omega
     clear hrg hr hs;go_wp2;go_roundw
     case rel=>exact ⟨a+1,m+1,L.set a y,by go_num,by go_num,HD2.out,HR6.out,HG6.out⟩
     case measure=>simp[intOf]; omega
  ·have hml2:m=l.length:=by omega
   subst hml2;have HF:Hid (L.take a=l.filter fun y => !pd y):=HD.out.end_;have hcl:=fun ty c=>Xf9 wr ty g cap a l.length c L HR.out hll ham;obtain ⟨r,hb,hr⟩:=HR.out;obtain ⟨ds,hd1,hd2,hd3,hd4⟩:=Xdl (Builtin.zeroCells z4 (l.length - a)).toList (a * 4) wr _ hb;have HGE:Hid (w.grownBy (wr.setCells g (a * 4) (Builtin.zeroCells z4 (l.length - a)).toList) (some g)):=HG.out.trans hd4;have HRE:Hid ((wr.setCells g (a * 4) (Builtin.zeroCells z4 (l.length - a)).toList).ownsRow base 95 4 (.slice (some ⟨g,0,none⟩) a cap) (l.filter fun y => !pd y).length ((l.filter fun y => !pd y).flatMap bkE.f)):=by
    have hla:(L.take a).length=a:=by rw[List.length_take]; omega
    have hfl:=Xan (E:=bkE) (L.take a);rw[hla,show bkE.k=4 from rfl] at hfl;have hfL:=Xan (E:=bkE) L;rw[show bkE.k=4 from rfl] at hfL;rw[←HF.out,hla];refine ⟨hfl,.inr ⟨g,cap,ds.toArray,rfl,HN.out.1,hd1,by have:=HN.out.2.1; omega,HN.out.2.2,?_,?_⟩⟩
    ·rw[List.size_toArray,hd2,List.length_append,hfL]; exact hr
    ·rw[hd3]
     conv=>lhs; rw[←List.take_append_drop a L]
     rw[List.flatMap_append,List.append_assoc,List.take_left' hfl]
   have hcc:¬ (cap=a):=by have:=HN.out.2.1; omega
   have ha3:(0:Int)≤(a:Int):=by omega
   have ha4:(a:Int)≤(l.length:Int):=by omega
   have ha5:(l.length:Int)≤(cap:Int):=by have:=HN.out.2.1; omega
   have ha6:(a:Int)≤(cap:Int):=by omega
   clear hb hr hd1 hd2 hd3 hd4 HR HG;generalize wr.setCells g (a * 4) (Builtin.zeroCells z4 (l.length - a)).toList=WF at HGE HRE hcl;go_wp2_with (simp only[hcl]);go_ret;exact ⟨_,rfl,HRE.out,rfl,HGE.out⟩
theorem Xql (A:Option Addr)(cA:Nat)(l:List Bkg)(X:Nat)(p:Bkg→Prop)(w:World)(hA:SlAt bkE w A l)(hl:l.length≤1000000)(hF:∀x ∈ l,∀w',Below w.heap.size w w' → Calls Tryz.prog 210 #[.agg #[.int .i64 x.ct,.int .i64 x.beg,.int .i64 x.fin,.int .i64 x.tick],.pointer (some ⟨X,0,none⟩)] w' (Xap (p x) w')) :
  Calls Tryz.prog 158 #[.slice A l.length cA,.func (.func 210) #[] #[.pointer (some ⟨X,0,none⟩)]] w (Xdu p l w):=by
 have HA:=Lib.hid hA;have HF:=Lib.hid hF;clear hA hF;go_enter Tryz.func158,Tryz.ntmps158;go_wp2;go_loopw [5,8] (fun _ i wr => ∃k:Nat,k≤l.length∧i = .int .i64 k∧Below w.heap.size w wr ∧ ∀x ∈ l.take k,¬ p x) (fun _ i _=>l.length - (intOf i).toNat)
 case atStart=>exact ⟨0,Nat.zero_le _,rfl,Below.refl _ _,by simp⟩
 case round =>
  obtain ⟨k,hk,rfl,hbw,hno⟩:=hrel;have HB:=Lib.hid hbw;have HNO:=Lib.hid hno;clear hbw hno
  by_cases hlt:k<l.length
  ·obtain ⟨b,off,rfl,hr⟩:=HA.out.one (by omega)
   obtain ⟨r,hrk⟩:∃r,l[k]? = some r:=⟨_,List.getElem?_eq_getElem hlt⟩;have HRK:=Lib.hid hrk;have hrg:wr.rangeAt b (off+k * 4) (bkE.f r):=Xa3 (hr k r hrk) HB.out;have c0:=Tp.rgBk hrg;have HCL:=Lib.hid (HF.out r (List.mem_of_getElem? hrk) wr HB.out);clear hr hrk hrg;go_wp2_with fail;refine HCL.out.mono ?_;rintro e w2 ⟨v,rfl,hv,hb2⟩;have HB2:=Lib.hid (Xa HB.out hb2);have HV:=Lib.hid hv;clear hb2 HCL hv c0;cases v with
   | false =>
     have HN:Hid (∀x ∈ l.take (k+1),¬ p x):=by
      intro x hx;rw[take_snoc HRK.out] at hx;rcases List.mem_append.1 hx with h | h
      ·exact HNO.out x h
      ·rw[List.mem_singleton.1 h];intro hp;have:=HV.out.2 hp;cases this
     go_wp2;go_roundw
     case rel=>exact ⟨k+1,by omega,by go_num,HB2.out,HN.out⟩
     case measure=>simp[intOf]; omega
   | true =>
     have HP:=Lib.hid (HV.out.1 rfl);go_wp2;go_ret;exact ⟨_,rfl,.inr ⟨k,r,rfl,HRK.out,HP.out,HNO.out⟩,HB2.out⟩
  ·have HN:Hid (∀x ∈ l,¬ p x):=by
    intro x hx;refine HNO.out x ?_;rw[List.take_of_length_le (by omega)]
    exact hx
   go_wp2;go_ret;exact ⟨_,rfl,.inl ⟨rfl,HN.out⟩,HB.out⟩
theorem Xtr (X base:Nat)(pd:Bkg→Bool)(v:Value)(l:List Bkg)(w:World)(hrow:w.ownsRow base 95 4 v l.length (l.flatMap bkE.f))(hbs:base≤w.heap.size)(hF:∀y ∈ l,∀w',w.grownBy w' v.ownBlock→Calls Tryz.prog 210 #[.agg #[.int .i64 y.ct,.int .i64 y.beg,.int .i64 y.fin,.int .i64 y.tick],.pointer (some ⟨X,0,none⟩)] w' (Xap (pd y=true) w'))(hl:l.length≤1000000) :
  Calls Tryz.prog 114 #[v,.func (.func 210) #[] #[.pointer (some ⟨X,0,none⟩)]] w fun e w' =>
   ∃v',e = .returned v' ∧ w'.ownsRow base 95 4 v' (l.filter fun y => !pd y).length ((l.filter fun y => !pd y).flatMap bkE.f)∧v'.ownBlock=v.ownBlock∧w.grownBy w' v.ownBlock:=by
 by_cases hne:l = []
 ·subst hne;obtain ⟨A,c,rfl⟩:=Xa8 hrow;have HR:=Lib.hid hrow;have hIX:=Lib.hid (Xql A c [] X (fun y=>pd y=true) w (SlAt.nil _ _) (by simp) (by simp))
  clear hrow hF;go_enter Tryz.func114,Tryz.ntmps114;go_wp2_with fail;refine hIX.out.mono ?_;rintro e w1 ⟨z,rfl,hz,hb1⟩;obtain rfl:z = -1:=by
   rcases hz with ⟨h,_⟩ | ⟨k,r,_,h,_⟩
   ·exact h
   ·simp at h
  have HR1:=Lib.hid (Xa6 HR.out hb1);have HG1:Hid (w.grownBy w1 (Value.slice A 0 c).ownBlock):=grown_below hb1 _;clear hz hb1 hIX;go_wp2;go_ret;exact ⟨_,rfl,HR1.out,rfl,HG1.out⟩
 obtain ⟨g,cap,rfl,hbg,hlc,hcm,hR⟩:=Xpt hrow hne;have hIX:=Lib.hid (Xql (some ⟨g,0,none⟩) cap l X (fun y=>pd y=true) w (fun k r hk=>⟨g,0,rfl,by rw[Nat.zero_add]; exact hR.cells hk⟩) (by omega) (fun y hy w' hb=>hF y hy w' (grown_below hb _)))
 have HF0:Hid (∀y ∈ l,∀w',w.grownBy w' (some g)→Calls Tryz.prog 210 #[.agg #[.int .i64 y.ct,.int .i64 y.beg,.int .i64 y.fin,.int .i64 y.tick],.pointer (some ⟨X,0,none⟩)] w' (Xap (pd y=true) w')):=hF;have HR:=Lib.hid hR;have HRW:=Lib.hid hrow;have HN:Hid (base≤g∧l.length≤cap∧cap≤maxLen):=⟨hbg,hlc,hcm⟩;have hc1:(cap:Int)≤9223372036854775807:=by unfold maxLen at hcm; omega
 clear hrow hF hne hR hbg hcm hbs;go_enter Tryz.func114,Tryz.ntmps114;go_wp2_with fail;refine hIX.out.mono ?_;rintro e w1 ⟨z,rfl,hz,hb1⟩;rcases hz with ⟨rfl,hno⟩ | hz
 ·have HR1:=Lib.hid (Xa6 HRW.out hb1);have HG1:Hid (w.grownBy w1 (Value.slice (some ⟨g,0,none⟩) l.length cap).ownBlock):=grown_below hb1 _;have HFI:Hid (l.filter (fun y => !pd y)=l):=by
   show _=_;rw[List.filter_eq_self];intro y hy;have:=hno y hy;simpa using this
  clear hno hb1 hIX;go_wp2;go_ret;rw[HFI.out];exact ⟨_,rfl,HR1.out,rfl,HG1.out⟩
 clear HRW;obtain ⟨k,r,rfl,hrk,hpr,hno⟩:∃(k:Nat) (r:Bkg),z=(k:Int)∧l[k]? = some r∧pd r=true ∧ ∀y ∈ l.take k,¬ pd y=true:=hz;have hkl:k<l.length:=(List.getElem?_eq_some_iff.1 hrk).1;have HD:Hid (DelB (fun y => !pd y) l l k (k+1)):=Xit hrk (by rw[hpr]; rfl) (fun y hy=>by
  have:=hno y hy;simpa using this)
 have HR1:=Lib.hid (HR.out.below hb1);have HG1:Hid (w.grownBy w1 (some g)):=grown_below hb1 _;have hz1:((k:Int) == -1)=false:=by rw[beq_eq_false_iff_ne]; omega
 clear hb1 hIX HR hrk hpr hno;go_wp2
 try rw[hz1]
 try clear hz1
 go_loopw [5,6,7] (fun i j _ wr => ∃(a m:Nat) (L:List Bkg),i = .int .i64 a∧j = .int .i64 m∧DelB (fun y => !pd y) l L a m∧RowB wr g cap L∧w.grownBy wr (some g)) (fun _ j _ _=>l.length - (intOf j).toNat)
 case atStart=>exact ⟨k,k+1,l,rfl,by go_num,HD.out,HR1.out,HG1.out⟩
 case round =>
  obtain ⟨a,m,L,rfl,rfl,hd,hR,hG⟩:=hrel;have HD:=Lib.hid hd;have HR:=Lib.hid hR;have HG:=Lib.hid hG;have hml:m≤l.length:=hd.2.2.1;have ham:a<m:=hd.2.1;have hll:L.length=l.length:=hd.1;clear hd hR hG HR1 HG1
  by_cases hlt:m<l.length
  ·obtain ⟨y,hy⟩:∃y,l[m]? = some y:=⟨_,List.getElem?_eq_getElem hlt⟩;have hLy:=HD.out.at_ hy;have HY:=Lib.hid hy;have hrg:=HR.out.cells hLy;have c0:wr.cell? ⟨g,m * 4,none⟩=some (.int .i64 y.ct):=hrg 0 _ rfl;have c1:wr.cell? ⟨g,m * 4+1,none⟩=some (.int .i64 y.beg):=hrg 1 _ rfl;have c2:wr.cell? ⟨g,m * 4+2,none⟩=some (.int .i64 y.fin):=hrg 2 _ rfl;have c3:wr.cell? ⟨g,m * 4+3,none⟩=some (.int .i64 y.tick):=hrg 3 _ rfl;have hm3:(0:Int)≤(m:Int):=by omega
   have hm4:(m:Int)<(l.length:Int):=by omega
   obtain ⟨_,_,rfl,rfl,-,HBX,HCB⟩:=box1 wr 95 (bkA y);have v0:=HCB.out.c4;have HR2:=Lib.hid (HR.out.below HBX.out);have HG2:Hid (w.grownBy (wr.alloc (.cells (bkA y) 95)) (some g)):=HG.out.trans (grown_below HBX.out _);have HCL:=Lib.hid (HF0.out y (List.mem_of_getElem? hy) _ HG2.out);clear hy hLy hrg HR HG HBX;go_wp2_with fail;generalize (wr.alloc (.cells (bkA y) 95))=W at HCB HR2 HG2 HCL ⊢;generalize wr.heap.size=B at HCB ⊢;refine HCL.out.mono ?_;rintro e w5 ⟨bv,rfl,hbv,hbl⟩;have HCB5:=Lib.hid (HCB.out.below hbl HCB.out.lt);have HR5:=Lib.hid (HR2.out.below hbl);have HG5:Hid (w.grownBy w5 (some g)):=HG2.out.trans (grown_below hbl _);have HBV:=Lib.hid hbv;clear hbv hbl HCB HR2 HG2 HCL c0 c1 c2 c3 v0;cases bv with
   | true =>
     have HD2:=Lib.hid (HD.out.skip HY.out (by rw[HBV.out.1 rfl]; rfl))
     go_wp2;go_roundw
     case rel=>exact ⟨a,m+1,L,rfl,by go_num,HD2.out,HR5.out,HG5.out⟩
     case measure=>simp[intOf]; omega
   | false =>
     have hs:pd y=false:=by
      cases h:pd y with
      | false=>rfl
      | true=>have:=HBV.out.2 h; cases this
     have HD2:=Lib.hid (HD.out.keep HY.out (by rw[hs]; rfl))
     have v0:=HCB5.out.c4;obtain ⟨r,hr⟩:∃r,L[a]? = some r:=⟨_,List.getElem?_eq_getElem (by omega)⟩
     have hrg:=HR5.out.cells hr;have c0:w5.cell? ⟨g,a * 4,none⟩=some (.int .i64 r.ct):=hrg 0 _ rfl;have c1:w5.cell? ⟨g,a * 4+1,none⟩=some (.int .i64 r.beg):=hrg 1 _ rfl;have c2:w5.cell? ⟨g,a * 4+2,none⟩=some (.int .i64 r.fin):=hrg 2 _ rfl;have c3:w5.cell? ⟨g,a * 4+3,none⟩=some (.int .i64 r.tick):=hrg 3 _ rfl;have f0:w5.frozen? ⟨g,a * 4,none⟩=false:=HR5.out.free _;have f1:w5.frozen? ⟨g,a * 4+1,none⟩=false:=HR5.out.free _;have f2:w5.frozen? ⟨g,a * 4+2,none⟩=false:=HR5.out.free _;have f3:w5.frozen? ⟨g,a * 4+3,none⟩=false:=HR5.out.free _;have HR6:=Lib.hid (HR5.out.put (a:=a) (by omega) y)
     have HG6:Hid (w.grownBy ((((w5.setCell ⟨g,a * 4,none⟩ (.int .i64 y.ct)).setCell ⟨g,a * 4+1,none⟩ (.int .i64 y.beg)).setCell ⟨g,a * 4+2,none⟩ (.int .i64 y.fin)).setCell ⟨g,a * 4+3,none⟩ (.int .i64 y.tick)) (some g)) :=
      ((((HG5.out.trans (Xa0 _ _ _ _)).trans (Xa0 _ _ _ _)).trans (Xa0 _ _ _ _)).trans (Xa0 _ _ _ _))
     have ha3:(0:Int)≤(a:Int):=by omega
     have ha4:(a:Int)<(l.length:Int):=by omega
     clear hrg hr hs;go_wp2;go_roundw
     case rel=>exact ⟨a+1,m+1,L.set a y,by go_num,by go_num,HD2.out,HR6.out,HG6.out⟩
     case measure=>simp[intOf]; omega
  ·have hml2:m=l.length:=by omega
   subst hml2;have HF:Hid (L.take a=l.filter fun y => !pd y):=HD.out.end_;have hcl:=fun ty c=>Xf9 wr ty g cap a l.length c L HR.out hll ham;obtain ⟨r,hb,hr⟩:=HR.out;obtain ⟨ds,hd1,hd2,hd3,hd4⟩:=Xdl (Builtin.zeroCells z4 (l.length - a)).toList (a * 4) wr _ hb;have HGE:Hid (w.grownBy (wr.setCells g (a * 4) (Builtin.zeroCells z4 (l.length - a)).toList) (some g)):=HG.out.trans hd4;have HRE:Hid ((wr.setCells g (a * 4) (Builtin.zeroCells z4 (l.length - a)).toList).ownsRow base 95 4 (.slice (some ⟨g,0,none⟩) a cap) (l.filter fun y => !pd y).length ((l.filter fun y => !pd y).flatMap bkE.f)):=by
    have hla:(L.take a).length=a:=by rw[List.length_take]; omega
    have hfl:=Xan (E:=bkE) (L.take a);rw[hla,show bkE.k=4 from rfl] at hfl;have hfL:=Xan (E:=bkE) L;rw[show bkE.k=4 from rfl] at hfL;rw[←HF.out,hla];refine ⟨hfl,.inr ⟨g,cap,ds.toArray,rfl,HN.out.1,hd1,by have:=HN.out.2.1; omega,HN.out.2.2,?_,?_⟩⟩
    ·rw[List.size_toArray,hd2,List.length_append,hfL]; exact hr
    ·rw[hd3]
     conv=>lhs; rw[←List.take_append_drop a L]
     rw[List.flatMap_append,List.append_assoc,List.take_left' hfl]
   have hcc:¬ (cap=a):=by have:=HN.out.2.1; omega
   have ha3:(0:Int)≤(a:Int):=by omega
   have ha4:(a:Int)≤(l.length:Int):=by omega
   have ha5:(l.length:Int)≤(cap:Int):=by have:=HN.out.2.1; omega
   have ha6:(a:Int)≤(cap:Int):=by omega
   clear hb hr hd1 hd2 hd3 hd4 HR HG;generalize wr.setCells g (a * 4) (Builtin.zeroCells z4 (l.length - a)).toList=WF at HGE HRE hcl;go_wp2_with (simp only[hcl]);go_ret;exact ⟨_,rfl,HRE.out,rfl,HGE.out⟩
end Go.Proofs.YtebkgbmijocdjaaGreat.Tp
