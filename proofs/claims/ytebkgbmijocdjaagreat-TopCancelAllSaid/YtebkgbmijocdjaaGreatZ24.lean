/- A part of the proof for the ledger. No condition beyond those that each theorem states. -/
import Derived.Sort.LoopGhostIn
import Derived.Test.YtebkgbmijocdjaaGreatZ22
import Derived.Test.YtebkgbmijocdjaaGreatZ23
set_option maxHeartbeats 32000000
set_option maxRecDepth 100000
set_option linter.unusedVariables false
set_option linter.unusedSimpArgs false
namespace Go.Proofs.YtebkgbmijocdjaaGreat.Tp
open Go Go.RowKit
theorem Xhg (X:Nat)(x y:Lab)(w:World)(hx:Bk w X 81 (lbA x)) :
  Calls Tryz.prog 68 #[.agg #[.int .i64 y.node,.int .i64 y.frm,.int .i64 y.til,.int .i64 y.time],.pointer (some ⟨X,0,none⟩)] w (Xap (same x y=true) w):=by
 have HB0:Hid (Below w.heap.size w (w.alloc (.cells (lbA y) 81))):=(Below.refl _ _).alloc (Nat.le_refl _) _;have HY:=Lib.hid (Bk.new w 81 (lbA y));have HX:=Lib.hid (hx.below HB0.out hx.lt);have HS:=Lib.hid (fun w=>Xj6 x y w);clear hx;have x0:=HX.out.c4;have y0:=HY.out.c4;go_enter Tryz.func68,Tryz.ntmps68;go_wp2_with fail;refine (HS.out _).mono ?_;rintro e w1 ⟨rfl,hb⟩;have HB1:=Lib.hid (Xa HB0.out hb);clear hb;go_wp2;go_ret;exact Xaf Iff.rfl HB1.out
theorem Xml (M:Nat)(x y:Lab)(h:Hop)(w:World)(hx:Bk w M 86 #[.int .i64 x.node,.int .i64 x.frm,.int .i64 x.til,.int .i64 x.time,.int .i64 h.ct,.int .i64 h.beg,.int .i64 h.fin,.int .i64 h.arr]) :
  Calls Tryz.prog 70 #[.agg #[.int .i64 y.node,.int .i64 y.frm,.int .i64 y.til,.int .i64 y.time],.pointer (some ⟨M,0,none⟩)] w (Xap (same x y=true) w):=by
 have HB0:Hid (Below w.heap.size w (w.alloc (.cells (lbA y) 81))):=(Below.refl _ _).alloc (Nat.le_refl _) _;have HY:=Lib.hid (Bk.new w 81 (lbA y));have HX:=Lib.hid (hx.below HB0.out hx.lt);have HS:=Lib.hid (fun w=>Xj6 x y w);clear hx;have x0:=HX.out.c4;have y0:=HY.out.c4;go_enter Tryz.func70,Tryz.ntmps70;go_wp2_with fail;refine (HS.out _).mono ?_;rintro e w1 ⟨rfl,hb⟩;have HB1:=Lib.hid (Xa HB0.out hb);clear hb;go_wp2;go_ret;exact Xaf Iff.rfl HB1.out
theorem Xqb (A:Option Addr)(cA:Nat)(l:List Lab)(X:Nat)(p:Lab→Prop)(w:World)(hA:SlAt lbE w A l)(hl:l.length≤1000000000)(hF:∀x ∈ l,∀w',Below w.heap.size w w' → Calls Tryz.prog 68 #[.agg #[.int .i64 x.node,.int .i64 x.frm,.int .i64 x.til,.int .i64 x.time],.pointer (some ⟨X,0,none⟩)] w' (Xap (p x) w')) :
  Calls Tryz.prog 140 #[.slice A l.length cA,.func (.func 68) #[] #[.pointer (some ⟨X,0,none⟩)]] w (Xdu p l w):=by
 have HA:=Lib.hid hA;have HF:=Lib.hid hF;clear hA hF;go_enter Tryz.func140,Tryz.ntmps140;go_wp2;go_loopw [5,8] (fun _ i wr => ∃k:Nat,k≤l.length∧i = .int .i64 k∧Below w.heap.size w wr ∧ ∀x ∈ l.take k,¬ p x) (fun _ i _=>l.length - (intOf i).toNat)
 case atStart=>exact ⟨0,Nat.zero_le _,rfl,Below.refl _ _,by simp⟩
 case round =>
  obtain ⟨k,hk,rfl,hbw,hno⟩:=hrel;have HB:=Lib.hid hbw;have HNO:=Lib.hid hno;clear hbw hno
  by_cases hlt:k<l.length
  ·obtain ⟨b,off,rfl,hr⟩:=HA.out.one (by omega)
   obtain ⟨r,hrk⟩:∃r,l[k]? = some r:=⟨_,List.getElem?_eq_getElem hlt⟩;have HRK:=Lib.hid hrk;have hrg:wr.rangeAt b (off+k * 4) (lbE.f r):=Xa3 (hr k r hrk) HB.out;have c0:=Tp.rgLb hrg;have HCL:=Lib.hid (HF.out r (List.mem_of_getElem? hrk) wr HB.out);clear hr hrk hrg;go_wp2_with fail;refine HCL.out.mono ?_;rintro e w2 ⟨v,rfl,hv,hb2⟩;have HB2:=Lib.hid (Xa HB.out hb2);have HV:=Lib.hid hv;clear hb2 HCL hv c0;cases v with
   | false =>
     have HN:Hid (∀x ∈ l.take (k+1),¬ p x):=by
      intro x hx;rw[take_snoc HRK.out] at hx;rcases List.mem_append.1 hx with h | h
      ·exact HNO.out x h
      ·rw[List.mem_singleton.1 h];intro hp;have:=HV.out.2 hp;cases this
     go_wp2;go_roundw
     case rel=>exact ⟨k+1,by omega,by go_num,HB2.out,HN.out⟩
     case measure=>simp[intOf]; omega
   | true =>
     have HP:=Lib.hid (HV.out.1 rfl);go_wp2;go_ret;exact ⟨_,rfl,.inr ⟨k,r,rfl,HRK.out,HP.out,HNO.out⟩,HB2.out⟩
  ·have HN:Hid (∀x ∈ l,¬ p x):=by
    intro x hx;refine HNO.out x ?_;rw[List.take_of_length_le (by omega)]
    exact hx
   go_wp2;go_ret;exact ⟨_,rfl,.inl ⟨rfl,HN.out⟩,HB.out⟩
theorem Xq9 (A:Option Addr)(cA:Nat)(l:List Lab)(M:Nat)(p:Lab→Prop)(w:World)(hA:SlAt lbE w A l)(hl:l.length≤1000000000)(hF:∀x ∈ l,∀w',Below w.heap.size w w' → Calls Tryz.prog 70 #[.agg #[.int .i64 x.node,.int .i64 x.frm,.int .i64 x.til,.int .i64 x.time],.pointer (some ⟨M,0,none⟩)] w' (Xap (p x) w')) :
  Calls Tryz.prog 140 #[.slice A l.length cA,.func (.func 70) #[] #[.pointer (some ⟨M,0,none⟩)]] w (Xdu p l w):=by
 have HA:=Lib.hid hA;have HF:=Lib.hid hF;clear hA hF;go_enter Tryz.func140,Tryz.ntmps140;go_wp2;go_loopw [5,8] (fun _ i wr => ∃k:Nat,k≤l.length∧i = .int .i64 k∧Below w.heap.size w wr ∧ ∀x ∈ l.take k,¬ p x) (fun _ i _=>l.length - (intOf i).toNat)
 case atStart=>exact ⟨0,Nat.zero_le _,rfl,Below.refl _ _,by simp⟩
 case round =>
  obtain ⟨k,hk,rfl,hbw,hno⟩:=hrel;have HB:=Lib.hid hbw;have HNO:=Lib.hid hno;clear hbw hno
  by_cases hlt:k<l.length
  ·obtain ⟨b,off,rfl,hr⟩:=HA.out.one (by omega)
   obtain ⟨r,hrk⟩:∃r,l[k]? = some r:=⟨_,List.getElem?_eq_getElem hlt⟩;have HRK:=Lib.hid hrk;have hrg:wr.rangeAt b (off+k * 4) (lbE.f r):=Xa3 (hr k r hrk) HB.out;have c0:=Tp.rgLb hrg;have HCL:=Lib.hid (HF.out r (List.mem_of_getElem? hrk) wr HB.out);clear hr hrk hrg;go_wp2_with fail;refine HCL.out.mono ?_;rintro e w2 ⟨v,rfl,hv,hb2⟩;have HB2:=Lib.hid (Xa HB.out hb2);have HV:=Lib.hid hv;clear hb2 HCL hv c0;cases v with
   | false =>
     have HN:Hid (∀x ∈ l.take (k+1),¬ p x):=by
      intro x hx;rw[take_snoc HRK.out] at hx;rcases List.mem_append.1 hx with h | h
      ·exact HNO.out x h
      ·rw[List.mem_singleton.1 h];intro hp;have:=HV.out.2 hp;cases this
     go_wp2;go_roundw
     case rel=>exact ⟨k+1,by omega,by go_num,HB2.out,HN.out⟩
     case measure=>simp[intOf]; omega
   | true =>
     have HP:=Lib.hid (HV.out.1 rfl);go_wp2;go_ret;exact ⟨_,rfl,.inr ⟨k,r,rfl,HRK.out,HP.out,HNO.out⟩,HB2.out⟩
  ·have HN:Hid (∀x ∈ l,¬ p x):=by
    intro x hx;refine HNO.out x ?_;rw[List.take_of_length_le (by omega)]
    exact hx
   go_wp2;go_ret;exact ⟨_,rfl,.inl ⟨rfl,HN.out⟩,HB.out⟩
theorem Xqa (A:Option Addr)(cA:Nat)(l:List Lab)(M:Nat)(p:Lab→Prop)(w:World)(hA:SlAt lbE w A l)(hl:l.length≤1000000000)(hF:∀x ∈ l,∀w',Below w.heap.size w w' → Calls Tryz.prog 70 #[.agg #[.int .i64 x.node,.int .i64 x.frm,.int .i64 x.til,.int .i64 x.time],.pointer (some ⟨M,0,none⟩)] w' (Xap (p x) w')) :
  Calls Tryz.prog 69 #[.slice A l.length cA,.func (.func 70) #[] #[.pointer (some ⟨M,0,none⟩)]] w (Xap (∃x ∈ l,p x) w):=by
 have HI:=Lib.hid (Xq9 A cA l M p w hA hl hF);clear hA hF;go_enter Tryz.func69,Tryz.ntmps69;go_wp2_with fail;refine HI.out.mono ?_;rintro e w1 ⟨z,rfl,hz,hb⟩;have HB:=Lib.hid hb;have HZ:=Lib.hid (Xhj hz);clear hz hb HI;go_wp2;go_ret;exact Xaf (by have:=HZ.out; simpa using this) HB.out
theorem Xh8 (y:Lab):∀(l:List Lab)(m:Lab),Xar m (l ++ [y])=if lbC y (Xar m l)<0 then y else Xar m l
 | [],m=>rfl
 | z :: l,m=>by rw[List.cons_append,Xar,Xar,Xh8 y l]
theorem put4 {W:World}{n g:Nat}{w:World}{t:TypeId}{v0 v1 v2 v3:Value}(h:Bk W g t #[v0,v1,v2,v3])(hb:Below n w W)(hg:n≤g)(a b c d:Value) :
  Bk ((((W.setCell ⟨g,0,none⟩ a).setCell ⟨g,1,none⟩ b).setCell ⟨g,2,none⟩ c).setCell ⟨g,3,none⟩ d) g t #[a,b,c,d] ∧ Below n w ((((W.setCell ⟨g,0,none⟩ a).setCell ⟨g,1,none⟩ b).setCell ⟨g,2,none⟩ c).setCell ⟨g,3,none⟩ d) ∧
   ∀ {k:Nat} {s:TypeId} {cs:Array Value},k ≠ g→Bk W k s cs→Bk ((((W.setCell ⟨g,0,none⟩ a).setCell ⟨g,1,none⟩ b).setCell ⟨g,2,none⟩ c).setCell ⟨g,3,none⟩ d) k s cs:=by
 refine ⟨(((h.put 0 a).put 1 b).put 2 c).put 3 d,(((hb.setCell (p:=⟨g,0,none⟩) hg _).setCell (p:=⟨g,1,none⟩) hg _).setCell (p:=⟨g,2,none⟩) hg _).setCell (p:=⟨g,3,none⟩) hg _,fun {k s cs} hk hb=>?_⟩;exact (((hb.other (p:=⟨g,0,none⟩) hk _).other (p:=⟨g,1,none⟩) hk _).other (p:=⟨g,2,none⟩) hk _).other (p:=⟨g,3,none⟩) hk _
abbrev z4:Array Value := #[.int .i64 0,.int .i64 0,.int .i64 0,.int .i64 0]
theorem Xmh (A:Option Addr)(cA:Nat)(o:Lab)(os:List Lab)(w:World)(hA:SlAt lbE w A (o :: os))(hl:os.length≤1099511627776) :
  Calls Tryz.prog 65 #[.slice A (o :: os).length cA,.func (.func 66) #[] #[]] w fun e w' => e = .returned (.agg #[.int .i64 (Xar o os).node,.int .i64 (Xar o os).frm,.int .i64 (Xar o os).til,.int .i64 (Xar o os).time])∧Below w.heap.size w w':=by
 obtain ⟨b,off,rfl,hr⟩:=hA.one (by simp)
 have HA:=Lib.hid hA;have HR:=Lib.hid hr;obtain ⟨_,_,rfl,rfl,-,HB0,HK0,HK1⟩:=box2 w 81 #[.int .i64 0,.int .i64 0,.int .i64 0,.int .i64 0] 81 #[.int .i64 0,.int .i64 0,.int .i64 0,.int .i64 0];have hrg:(w.alloc (.cells #[.int .i64 0,.int .i64 0,.int .i64 0,.int .i64 0] 81)).rangeAt b (off+0 * 4) (lbE.f o):=Xa3 (hr 0 o rfl) ((Below.refl _ _).alloc (Nat.le_refl _) _);have c0:(w.alloc (.cells #[.int .i64 0,.int .i64 0,.int .i64 0,.int .i64 0] 81)).cell? ⟨b,off,none⟩=some (.int .i64 o.node):=by simpa using hrg 0 _ rfl
 have c1:(w.alloc (.cells #[.int .i64 0,.int .i64 0,.int .i64 0,.int .i64 0] 81)).cell? ⟨b,off+1,none⟩=some (.int .i64 o.frm):=by simpa using hrg 1 _ rfl
 have c2:(w.alloc (.cells #[.int .i64 0,.int .i64 0,.int .i64 0,.int .i64 0] 81)).cell? ⟨b,off+2,none⟩=some (.int .i64 o.til):=by simpa using hrg 2 _ rfl
 have c3:(w.alloc (.cells #[.int .i64 0,.int .i64 0,.int .i64 0,.int .i64 0] 81)).cell? ⟨b,off+3,none⟩=some (.int .i64 o.time):=by simpa using hrg 3 _ rfl
 have hn1:((o :: os).length:Int)=(os.length:Int)+1:=by simp
 have hn2:¬ ((o :: os).length:Int)<1:=by omega
 clear hr hrg hA;go_enter Tryz.func65,Tryz.ntmps65;go_wp2;obtain ⟨_,_,rfl,rfl,-,HB2,HZ, -⟩:=box2 w 81 #[.int .i64 0,.int .i64 0,.int .i64 0,.int .i64 0] 81 #[.int .i64 o.node,.int .i64 o.frm,.int .i64 o.til,.int .i64 o.time];have HK2:Hid (Bk ((w.alloc (.cells #[.int .i64 0,.int .i64 0,.int .i64 0,.int .i64 0] 81)).alloc (.cells #[.int .i64 o.node,.int .i64 o.frm,.int .i64 o.til,.int .i64 o.time] 81)) (w.heap.size+1) 81 (lbA o)):=by
  have h:=Bk.new (w.alloc (.cells #[.int .i64 0,.int .i64 0,.int .i64 0,.int .i64 0] 81)) 81 (lbA o)
  rwa [World.size_alloc] at h
 clear HK0 HK1 HB0 c0 c1 c2 c3;generalize ((w.alloc (.cells #[.int .i64 0,.int .i64 0,.int .i64 0,.int .i64 0] 81)).alloc (.cells #[.int .i64 o.node,.int .i64 o.frm,.int .i64 o.til,.int .i64 o.time] 81))=W at HK2 HB2 HZ ⊢;have HS:Hid (∀wr,Below w.heap.size w wr→SlAt lbE wr (some ⟨b,off,none⟩) (o :: os)):=fun wr hb=>HA.out.below hb;generalize hg0:w.heap.size=g0 at HK2 HB2 HZ HS ⊢;go_loopw [6] (fun i wr => ∃m:Nat,1≤m∧m≤os.length+1∧i = .int .i64 m∧Below g0 w wr∧Bk wr (g0+1) 81 (lbA (Xar o (os.take (m - 1))))∧Bk wr g0 81 #[.int .i64 0,.int .i64 0,.int .i64 0,.int .i64 0]) (fun i _=>os.length+1 - (intOf i).toNat)
 case atStart=>exact ⟨1,Nat.le_refl _,by omega,rfl,HB2.out,HK2.out,HZ.out⟩
 case round =>
  obtain ⟨m,hm1,hm2,rfl,hb,hk,hz⟩:=hrel;have HB:=Lib.hid hb;have HK:=Lib.hid hk;have HZ:=Lib.hid hz;clear hb hk hz;have hn1:((o :: os).length:Int)=(os.length:Int)+1:=by simp
  by_cases hlt:m<os.length+1
  ·obtain ⟨y,hy⟩:∃y,(o :: os)[m]? = some y:=⟨_,List.getElem?_eq_getElem (by rw[List.length_cons]; omega)⟩
   have hy1:os[m - 1]? = some y:=by
    obtain ⟨j,rfl⟩:∃j,m=j+1:=⟨m - 1,by omega⟩
    simpa using hy
   have hsn:Xar o (os.take (m+1 - 1))=if lbC y (Xar o (os.take (m - 1)))<0 then y else Xar o (os.take (m - 1)):=by
    rw[show m+1 - 1=(m - 1)+1 by omega,take_snoc hy1,Xh8]
   have HSN:=Lib.hid hsn;obtain ⟨z,hzz⟩:∃z,z=Xar o (os.take (m - 1)):=⟨_,rfl⟩;rw[←hzz] at HK HSN;obtain ⟨b2,off2,e2,hr2⟩:=(HS.out wr HB.out).one (by simp)
   cases e2;have hrg:=hr2 m y hy;have c0:wr.cell? ⟨b,off+m * 4,none⟩=some (.int .i64 y.node):=hrg 0 _ rfl;have c1:wr.cell? ⟨b,off+m * 4+1,none⟩=some (.int .i64 y.frm):=hrg 1 _ rfl;have c2:wr.cell? ⟨b,off+m * 4+2,none⟩=some (.int .i64 y.til):=hrg 2 _ rfl;have c3:wr.cell? ⟨b,off+m * 4+3,none⟩=some (.int .i64 y.time):=hrg 3 _ rfl;have HRG:=Lib.hid hrg;have z0:=HK.out.c4;have HCM:=Lib.hid (fun w=>Xjp y z w);have HD:Hid (∀w',Below wr.heap.size wr w' → ((w'.cell? ⟨b,off+m * 4,none⟩=some (.int .i64 y.node)∧w'.cell? ⟨b,off+m * 4+1,none⟩=some (.int .i64 y.frm)∧w'.cell? ⟨b,off+m * 4+2,none⟩=some (.int .i64 y.til)∧w'.cell? ⟨b,off+m * 4+3,none⟩=some (.int .i64 y.time))∧(w'.cell? ⟨g0+1,0,none⟩=some (.int .i64 z.node)∧w'.cell? ⟨g0+1,1,none⟩=some (.int .i64 z.frm)∧w'.cell? ⟨g0+1,2,none⟩=some (.int .i64 z.til)∧w'.cell? ⟨g0+1,3,none⟩=some (.int .i64 z.time)))):=fun w' hb' => by
    have h2:=HK.out.below hb' HK.out.lt;have h5:=Xa3 HRG.out hb';exact ⟨⟨h5 0 _ rfl,h5 1 _ rfl,h5 2 _ rfl,h5 3 _ rfl⟩,⟨h2.cell 0,h2.cell 1,h2.cell 2,h2.cell 3⟩⟩
   have hm3:(0:Int)≤(m:Int):=by omega
   have hm4:(m:Int)<(os.length:Int)+1:=by omega
   clear hsn hy hy1 hzz hr2 hrg hn1
   by_cases hc:lbC y z<0
   ·have d1:decide (lbC y z<0)=true:=by simpa using hc
    have HF:Hid (Xar o (os.take (m+1 - 1))=y):=by show _=_; rw[HSN.out,if_pos hc]
    clear hc;go_wp2_with fail;go_region_held3 (fun w' => ((w'.cell? ⟨b,off+m * 4,none⟩=some (.int .i64 y.node)∧w'.cell? ⟨b,off+m * 4+1,none⟩=some (.int .i64 y.frm)∧w'.cell? ⟨b,off+m * 4+2,none⟩=some (.int .i64 y.til)∧w'.cell? ⟨b,off+m * 4+3,none⟩=some (.int .i64 y.time))∧(w'.cell? ⟨g0+1,0,none⟩=some (.int .i64 z.node)∧w'.cell? ⟨g0+1,1,none⟩=some (.int .i64 z.frm)∧w'.cell? ⟨g0+1,2,none⟩=some (.int .i64 z.til)∧w'.cell? ⟨g0+1,3,none⟩=some (.int .i64 z.time)))∧Hid (Below wr.heap.size wr w')) (((try go_split_ands); first | exact Xa7 HD (Below.refl _ _).drew | exact Xaw HD (by assumption) hb4))
     ((go_at_call 66
       refine (HCM.out _).mono ?_;rintro e w4 ⟨rfl,hb4⟩))
    have HBF:Hid (Below wr.heap.size wr w4):=by (try go_split_ands); assumption
    have HB4:Hid (Below g0 w w4):=HB.out.trans (HBF.out.mono (by have:=HK.out.lt; omega))
    have HK4:=Lib.hid (HK.out.below HBF.out HK.out.lt);have HZ4:=Lib.hid (HZ.out.below HBF.out HZ.out.lt);have hrg:w4.rangeAt b (off+m * 4) (lbE.f y):=Xa3 HRG.out HBF.out;obtain ⟨d0,d1,d2,d3⟩:=Tp.rgLb hrg;have q0:=HK4.out.c4;have f0:=HK4.out.f4;obtain ⟨p1,p2,p3⟩:=put4 HK4.out HB4.out (by omega) (.int .i64 y.node) (.int .i64 y.frm) (.int .i64 y.til) (.int .i64 y.time)
    have P1:=Lib.hid p1;have P2:=Lib.hid p2;have P3:=Lib.hid (p3 (by omega) HZ4.out)
    clear hrg p1 p2 p3 c0 c1 c2 c3 z0;go_wp2;go_roundw
    case rel=>exact ⟨m+1,by omega,by omega,by go_num,P2.out,by rw[HF.out]; exact P1.out,P3.out⟩
    case measure=>simp[intOf]; omega
   ·have d1:decide (lbC y z<0)=false:=by simpa using hc
    have HF:Hid (Xar o (os.take (m+1 - 1))=z):=by show _=_; rw[HSN.out,if_neg hc]
    clear hc;go_wp2_with fail;go_region_held3 (fun w' => ((w'.cell? ⟨b,off+m * 4,none⟩=some (.int .i64 y.node)∧w'.cell? ⟨b,off+m * 4+1,none⟩=some (.int .i64 y.frm)∧w'.cell? ⟨b,off+m * 4+2,none⟩=some (.int .i64 y.til)∧w'.cell? ⟨b,off+m * 4+3,none⟩=some (.int .i64 y.time))∧(w'.cell? ⟨g0+1,0,none⟩=some (.int .i64 z.node)∧w'.cell? ⟨g0+1,1,none⟩=some (.int .i64 z.frm)∧w'.cell? ⟨g0+1,2,none⟩=some (.int .i64 z.til)∧w'.cell? ⟨g0+1,3,none⟩=some (.int .i64 z.time)))∧Hid (Below wr.heap.size wr w')) (((try go_split_ands); first | exact Xa7 HD (Below.refl _ _).drew | exact Xaw HD (by assumption) hb4))
     ((go_at_call 66
       refine (HCM.out _).mono ?_;rintro e w4 ⟨rfl,hb4⟩))
    have HBF:Hid (Below wr.heap.size wr w4):=by (try go_split_ands); assumption
    have HB4:Hid (Below g0 w w4):=HB.out.trans (HBF.out.mono (by have:=HK.out.lt; omega))
    have HK4:=Lib.hid (HK.out.below HBF.out HK.out.lt);have HZ4:=Lib.hid (HZ.out.below HBF.out HZ.out.lt);clear c0 c1 c2 c3 z0;go_wp2;go_roundw
    case rel=>exact ⟨m+1,by omega,by omega,by go_num,HB4.out,by rw[HF.out]; exact HK4.out,HZ4.out⟩
    case measure=>simp[intOf]; omega
  ·have hmm:m - 1=os.length:=by omega
   have HF:Hid (os.take (m - 1)=os):=by show _=_; rw[hmm,List.take_length]
   rw[HF.out] at HK;generalize hzz:Xar o os=z at HK;have z0:=HK.out.c4;have q0:=HZ.out.c4;have f0:=HZ.out.f4;obtain ⟨⟨p0,p1,p2,p3⟩,hbf⟩:=hop4 HZ.out HB.out (Nat.le_refl _) (.int .i64 z.node) (.int .i64 z.frm) (.int .i64 z.til) (.int .i64 z.time);clear hmm HF;go_wp2;generalize (((wr.setCell ⟨g0,0,none⟩ (.int .i64 z.node)).setCell ⟨g0,1,none⟩ (.int .i64 z.frm)).setCell ⟨g0,2,none⟩ (.int .i64 z.til)).setCell ⟨g0,3,none⟩ (.int .i64 z.time)=WF at p0 p1 p2 p3 hbf ⊢;exact bodyPost_ret (v:=.agg #[.int .i64 z.node,.int .i64 z.frm,.int .i64 z.til,.int .i64 z.time]) (by simp[results,Tryz.results65,go_sem,p0,p1,p2,p3]) rfl ⟨by rw[hzz],by rw[hg0]; exact hbf⟩
theorem Xlk (x:Lab):∀(L:List Lab)(a:Nat)(r:List Value),a<L.length→((((L.flatMap lbE.f ++ r).set (a * 4) (.int .i64 x.node)).set (a * 4+1) (.int .i64 x.frm)).set (a * 4+2) (.int .i64 x.til)).set (a * 4+3) (.int .i64 x.time)=(L.set a x).flatMap lbE.f ++ r
 | [],a,r,h=>by simp at h
 | y :: L,0,r,_=>rfl
 | y :: L,a+1,r,h=>by
   have ih:=Xlk x L a r (by simpa using h)
   have e:∀j,(a+1) * 4+j=(a * 4+j)+1+1+1+1:=fun j=>by omega
   rw[List.set_cons_succ,show ((a+1) * 4)=(a * 4)+1+1+1+1 by omega,show ((y :: L).flatMap lbE.f ++ r) = .int .i64 y.node :: .int .i64 y.frm :: .int .i64 y.til :: .int .i64 y.time :: (L.flatMap lbE.f ++ r) from rfl,
    show ((y :: L.set a x).flatMap lbE.f ++ r) = .int .i64 y.node :: .int .i64 y.frm :: .int .i64 y.til :: .int .i64 y.time :: ((L.set a x).flatMap lbE.f ++ r) from rfl, ←ih]
   have f:∀j,(a * 4)+1+1+1+1+j=(a * 4+j)+1+1+1+1:=fun j=>by omega
   simp only[f,List.set_cons_succ]
def RowL (w:World)(g cap:Nat)(L:List Lab):Prop:=∃r:List Value,Bk w g 81 (L.flatMap lbE.f ++ r).toArray∧L.length * 4+r.length=cap * 4
theorem RowL.put {w:World}{g cap a:Nat}{L:List Lab}(h:RowL w g cap L)(ha:a<L.length)(x:Lab) :
  RowL ((((w.setCell ⟨g,a * 4,none⟩ (.int .i64 x.node)).setCell ⟨g,a * 4+1,none⟩ (.int .i64 x.frm)).setCell ⟨g,a * 4+2,none⟩ (.int .i64 x.til)).setCell ⟨g,a * 4+3,none⟩ (.int .i64 x.time)) g cap (L.set a x):=by
 obtain ⟨r,hb,hr⟩:=h;refine ⟨r,?_,by rw[List.length_set]; exact hr⟩
 have h4:=(((hb.put (a * 4) (.int .i64 x.node)).put (a * 4+1) (.int .i64 x.frm)).put (a * 4+2) (.int .i64 x.til)).put (a * 4+3) (.int .i64 x.time);simp only[List.setIfInBounds_toArray] at h4
 rwa [Xlk x L a r ha] at h4
theorem RowL.cells {w:World}{g cap:Nat}{L:List Lab}(h:RowL w g cap L){k:Nat}{x:Lab}(hk:L[k]? = some x):w.rangeAt g (k * 4) (lbE.f x):=by
 obtain ⟨r,hb,hr⟩:=h;intro j v hj;have h1:=flat_get (E:=lbE) L k x hk j v hj;have hlt:k * 4+j<(L.flatMap lbE.f).length:=(List.getElem?_eq_some_iff.1 h1).1;rw[hb.cell,List.getElem?_toArray,List.getElem?_append_left hlt];exact h1
theorem RowL.free {w:World}{g cap:Nat}{L:List Lab}(h:RowL w g cap L)(i:Nat):w.frozen? ⟨g,i,none⟩=false:=by
 obtain ⟨r,hb,hr⟩:=h;exact hb.free i
theorem RowL.grown {w w':World}{g cap:Nat}{L:List Lab}(h:RowL w g cap L){row:Option Nat}(hg:w.grownBy w' row)(hn:some g ≠ row):RowL w' g cap L:=by
 obtain ⟨r,hb,hr⟩:=h;exact ⟨r,hb.grown hg hn,hr⟩
theorem RowL.below {w w':World}{g cap:Nat}{L:List Lab}(h:RowL w g cap L)(hb:Below w.heap.size w w'):RowL w' g cap L:=by
 obtain ⟨r,hb',hr⟩:=h;exact ⟨r,hb'.below hb hb'.lt,hr⟩
theorem RowL.lt {w:World}{g cap:Nat}{L:List Lab}(h:RowL w g cap L):g<w.heap.size:=by
 obtain ⟨r,hb,hr⟩:=h;exact hb.lt
theorem Xt9 {w:World}{base:Nat}{v:Value}{L:List Lab}(h:w.ownsRow base 81 4 v L.length (L.flatMap lbE.f))(hL:L ≠ []):∃g cap,v = .slice (some ⟨g,0,none⟩) L.length cap∧base≤g∧L.length≤cap∧cap≤maxLen∧RowL w g cap L:=by
 obtain ⟨hl,h | ⟨g,cap,cur,rfl,hb,hg,hn,hm,hc,ht⟩⟩:=h
 ·exact absurd (List.eq_nil_of_length_eq_zero h.2) hL
 ·refine ⟨g,cap,rfl,hb,hn,hm,cur.toList.drop (L.length * 4),?_,?_⟩
  ·have e:L.flatMap lbE.f ++ cur.toList.drop (L.length * 4)=cur.toList:=by
    conv=>rhs; rw[←List.take_append_drop (L.length * 4) cur.toList]
    rw[ht]
   rw[e];exact hg
  ·have h1:cur.toList.length=cap * 4:=by rw[Array.length_toList]; exact hc
   rw[List.length_drop,h1];omega
theorem Xdl {g:Nat}{t:TypeId}:∀(vs:List Value)(o:Nat)(w:World)(cs:List Value),Bk w g t cs.toArray → ∃ds:List Value,Bk (w.setCells g o vs) g t ds.toArray∧ds.length=cs.length∧ds.take o=cs.take o∧w.grownBy (w.setCells g o vs) (some g)
 | [],o,w,cs,h=>⟨cs,h,rfl,rfl,(grown_below (Below.refl _ _) none).but _⟩
 | v :: vs,o,w,cs,h=>by
   have h1:=h.put o v;rw[List.setIfInBounds_toArray] at h1;obtain ⟨ds,h2,h3,h4,h5⟩:=Xdl vs (o+1) _ _ h1;refine ⟨ds,h2,by rw[h3,List.length_set],?_,(Xa0 w g o v).trans h5⟩
   have h6:=congrArg (List.take o) h4;rw[List.take_take,List.take_take,show min o (o+1)=o by omega,List.take_set_of_le (by omega)] at h6
   exact h6
def DelI (p:Lab→Bool)(l L:List Lab)(a m:Nat):Prop:=L.length=l.length∧a<m∧m≤l.length∧L.take a=(l.take m).filter p∧L.drop m=l.drop m
theorem DelI.at_ {p:Lab→Bool}{l L:List Lab}{a m:Nat}{y:Lab}(h:DelI p l L a m)(hy:l[m]? = some y):L[m]? = some y:=by
 have h1:=congrArg (·[0]?) h.2.2.2.2;simp only[List.getElem?_drop,Nat.add_zero] at h1;rw[h1]; exact hy
theorem DelI.skip {p:Lab→Bool}{l L:List Lab}{a m:Nat}{y:Lab}(h:DelI p l L a m)(hy:l[m]? = some y)(hp:p y=false):DelI p l L a (m+1):=by
 have hm:=(List.getElem?_eq_some_iff.1 hy).1;refine ⟨h.1,by have:=h.2.1; omega,by omega,?_,?_⟩
 ·rw[take_snoc hy,List.filter_append, ←h.2.2.2.1];simp[hp]
 ·rw[←List.drop_drop, ←List.drop_drop,h.2.2.2.2]
theorem DelI.keep {p:Lab→Bool}{l L:List Lab}{a m:Nat}{y:Lab}(h:DelI p l L a m)(hy:l[m]? = some y)(hp:p y=true):DelI p l (L.set a y) (a+1) (m+1):=by
 have hm:=(List.getElem?_eq_some_iff.1 hy).1;have ha:=h.2.1;have hl:=h.1;refine ⟨by rw[List.length_set]; exact h.1,by omega,by omega,?_,?_⟩
 ·rw[take_snoc hy,List.filter_append, ←h.2.2.2.1,take_snoc (r:=y) (by rw[List.getElem?_set_self (by omega)]),List.take_set_of_le (by omega)]
  simp[hp]
 ·rw[List.drop_set_of_lt (by omega), ←List.drop_drop, ←List.drop_drop,h.2.2.2.2]
theorem Xou {p:Lab→Bool}{l:List Lab}{k:Nat}{y:Lab}(hy:l[k]? = some y)(hp:p y=false)(hn:∀x ∈ l.take k,p x=true):DelI p l l k (k+1):=by
 have hm:=(List.getElem?_eq_some_iff.1 hy).1;refine ⟨rfl,by omega,by omega,?_,rfl⟩
 rw[take_snoc hy,List.filter_append,List.filter_eq_self.2 hn];simp[hp]
theorem DelI.end_ {p:Lab→Bool}{l L:List Lab}{a:Nat}(h:DelI p l L a l.length):L.take a=l.filter p:=by
 have:=h.2.2.2.1
 rwa [List.take_length] at this
theorem Xj7 (w:World)(ty:TypeId)(g cap a n c:Nat)(L:List Lab)(h:RowL w g cap L)(hn:L.length=n)(ha:a<n) :
  (Builtin.clear_ #[57] ty #[.slice (some ⟨g,a * 4,none⟩) (n - a) c]).run Tryz.prog w = .ok (.tuple #[]) (w.setCells g (a * 4) (Builtin.zeroCells z4 (n - a)).toList):=by
 have hzv:∀w,(zeroValue 81).run Tryz.prog w = .ok (.agg z4) w:=fun w=>by kernel_rfl
 obtain ⟨r,hb,hr⟩:=h;have hfl:=Xan (E:=lbE) L;rw[show lbE.k=4 from rfl] at hfl;have hzl:(Builtin.zeroCells z4 (n - a)).toList.length=(n - a) * 4:=by simp[Builtin.zeroCells]
 have hst:=run_storeCells_cells (P:=Tryz.prog) g (a * 4) (Builtin.zeroCells z4 (n - a)).toList 0 w (fun j hj=>by
   rw[hb.cell,List.getElem?_toArray,List.getElem?_eq_getElem (by rw[List.length_append,hfl]; omega)]; rfl) (fun j hj=>hb.free _) (fun v hv=>by
   simp only[Builtin.zeroCells,Array.toList_map,List.mem_map] at hv;obtain ⟨i,-,rfl⟩:=hv;have h4:i % z4.size<4:=Nat.mod_lt _ (by decide)
   match i % z4.size,h4 with
   | 0,_=>rfl
   | 1,_=>rfl
   | 2,_=>rfl
   | 3,_=>rfl)
 rw[Nat.add_zero] at hst;obtain ⟨m,hm⟩:∃m,n - a=m+1:=⟨n - a - 1,by omega⟩
 rw[hm] at hst ⊢;simp[Builtin.clear_,run_underlying Tryz.underlying57,hzv,Value.cells,hst]
theorem Xi7 (X base:Nat)(x:Lab)(v:Value)(l:List Lab)(w:World)(hrow:w.ownsRow base 81 4 v l.length (l.flatMap lbE.f))(hx:Bk w X 81 (lbA x))(hv:v.ownBlock ≠ some X)(hin:∃y ∈ l,same x y=true)(hl:l.length≤1000000000) :
  Calls Tryz.prog 67 #[v,.func (.func 68) #[] #[.pointer (some ⟨X,0,none⟩)]] w fun e w' =>
   ∃v',e = .returned v' ∧ w'.ownsRow base 81 4 v' (l.filter fun y => !same x y).length ((l.filter fun y => !same x y).flatMap lbE.f)∧v'.ownBlock=v.ownBlock∧w.grownBy w' v.ownBlock:=by
 have hne:l ≠ []:=by
  obtain ⟨y,hy,_⟩:=hin;intro e;rw[e] at hy;simp at hy
 obtain ⟨g,cap,rfl,hbg,hlc,hcm,hR⟩:=Xt9 hrow hne;have hgX:g ≠ X:=fun e=>hv (by rw[e]; rfl)
 have hIX:=Lib.hid (Xqb (some ⟨g,0,none⟩) cap l X (fun y=>same x y=true) w (fun k r hk=>⟨g,0,rfl,by rw[Nat.zero_add]; exact hR.cells hk⟩) (by omega) (fun y _ w' hb=>Xhg X x y w' (hx.below hb hx.lt)))
 have HR:=Lib.hid hR;have HX:=Lib.hid hx;have HIN:=Lib.hid hin;have HN:Hid (base≤g∧l.length≤cap∧cap≤maxLen∧g ≠ X):=⟨hbg,hlc,hcm,hgX⟩;have hc1:(cap:Int)≤9223372036854775807:=by unfold maxLen at hcm; omega
 clear hrow hx hv hin hne hR hbg hcm hgX;go_enter Tryz.func67,Tryz.ntmps67;go_wp2_with fail;refine hIX.out.mono ?_;rintro e w1 ⟨z,rfl,hz,hb1⟩;obtain ⟨k,r,rfl,hrk,hpr,hno⟩:∃(k:Nat) (r:Lab),z=(k:Int)∧l[k]? = some r∧same x r=true ∧ ∀y ∈ l.take k,¬ same x y=true:=by
  rcases hz with ⟨rfl,h⟩ | h
  ·obtain ⟨y,hy,hs⟩:=HIN.out;exact absurd hs (h y hy)
  ·exact h
 have hkl:k<l.length:=(List.getElem?_eq_some_iff.1 hrk).1;have HD:Hid (DelI (fun y => !same x y) l l k (k+1)):=Xou hrk (by rw[hpr]; rfl) (fun y hy=>by
  have:=hno y hy;simpa using this)
 have HR1:=Lib.hid (HR.out.below hb1);have HX1:=Lib.hid (HX.out.below hb1 HX.out.lt);have HG1:Hid (w.grownBy w1 (some g)):=grown_below hb1 _;have hz1:((k:Int) == -1)=false:=by rw[beq_eq_false_iff_ne]; omega
 clear hz hb1 hIX HR HX HIN hrk hpr hno;go_wp2
 try rw[hz1]
 try clear hz1
 go_loopw [5,6,7] (fun i j _ wr => ∃(a m:Nat) (L:List Lab),i = .int .i64 a∧j = .int .i64 m∧DelI (fun y => !same x y) l L a m∧RowL wr g cap L∧w.grownBy wr (some g)∧Bk wr X 81 (lbA x)) (fun _ j _ _=>l.length - (intOf j).toNat)
 case atStart=>exact ⟨k,k+1,l,rfl,by go_num,HD.out,HR1.out,HG1.out,HX1.out⟩
 case round =>
  obtain ⟨a,m,L,rfl,rfl,hd,hR,hG,hx⟩:=hrel;have HD:=Lib.hid hd;have HR:=Lib.hid hR;have HG:=Lib.hid hG;have HX:=Lib.hid hx;have hml:m≤l.length:=hd.2.2.1;have ham:a<m:=hd.2.1;have hll:L.length=l.length:=hd.1;clear hd hR hG hx HR1 HG1 HX1
  by_cases hlt:m<l.length
  ·obtain ⟨y,hy⟩:∃y,l[m]? = some y:=⟨_,List.getElem?_eq_getElem hlt⟩;have hLy:=HD.out.at_ hy;have HY:=Lib.hid hy;have hrg:=HR.out.cells hLy;have c0:wr.cell? ⟨g,m * 4,none⟩=some (.int .i64 y.node):=hrg 0 _ rfl;have c1:wr.cell? ⟨g,m * 4+1,none⟩=some (.int .i64 y.frm):=hrg 1 _ rfl;have c2:wr.cell? ⟨g,m * 4+2,none⟩=some (.int .i64 y.til):=hrg 2 _ rfl;have c3:wr.cell? ⟨g,m * 4+3,none⟩=some (.int .i64 y.time):=hrg 3 _ rfl;have hm3:(0:Int)≤(m:Int):=by omega
   have hm4:(m:Int)<(l.length:Int):=by omega
   obtain ⟨_,_,rfl,rfl,-,HBX,HCB⟩:=box1 wr 81 (lbA y);have v0:=HCB.out.c4;have HX2:=Lib.hid (HX.out.below HBX.out HX.out.lt);have HR2:=Lib.hid (HR.out.below HBX.out);have HG2:Hid (w.grownBy (wr.alloc (.cells (lbA y) 81)) (some g)):=HG.out.trans (grown_below HBX.out _);have HCL:=Lib.hid (Xhg X x y _ HX2.out);clear hy hLy hrg HR HG HX HBX;go_wp2_with fail;generalize (wr.alloc (.cells (lbA y) 81))=W at HCB HX2 HR2 HG2 HCL ⊢;generalize wr.heap.size=B at HCB ⊢;refine HCL.out.mono ?_;rintro e w5 ⟨bv,rfl,hbv,hbl⟩;have HCB5:=Lib.hid (HCB.out.below hbl HCB.out.lt);have HX5:=Lib.hid (HX2.out.below hbl HX2.out.lt);have HR5:=Lib.hid (HR2.out.below hbl);have HG5:Hid (w.grownBy w5 (some g)):=HG2.out.trans (grown_below hbl _);have HBV:=Lib.hid hbv;clear hbv hbl HCB HX2 HR2 HG2 HCL c0 c1 c2 c3 v0;cases bv with
   | true =>
     have HD2:=Lib.hid (HD.out.skip HY.out (by rw[HBV.out.1 rfl]; rfl))
     go_wp2;go_roundw
     case rel=>exact ⟨a,m+1,L,rfl,by go_num,HD2.out,HR5.out,HG5.out,HX5.out⟩
     case measure=>simp[intOf]; omega
   | false =>
     have hs:same x y=false:=by
      cases h:same x y with
      | false=>rfl
      | true=>have:=HBV.out.2 h; cases this
     have HD2:=Lib.hid (HD.out.keep HY.out (by rw[hs]; rfl))
     have v0:=HCB5.out.c4;obtain ⟨r,hr⟩:∃r,L[a]? = some r:=⟨_,List.getElem?_eq_getElem (by omega)⟩
     have hrg:=HR5.out.cells hr;have c0:w5.cell? ⟨g,a * 4,none⟩=some (.int .i64 r.node):=hrg 0 _ rfl;have c1:w5.cell? ⟨g,a * 4+1,none⟩=some (.int .i64 r.frm):=hrg 1 _ rfl;have c2:w5.cell? ⟨g,a * 4+2,none⟩=some (.int .i64 r.til):=hrg 2 _ rfl;have c3:w5.cell? ⟨g,a * 4+3,none⟩=some (.int .i64 r.time):=hrg 3 _ rfl;have f0:w5.frozen? ⟨g,a * 4,none⟩=false:=HR5.out.free _;have f1:w5.frozen? ⟨g,a * 4+1,none⟩=false:=HR5.out.free _;have f2:w5.frozen? ⟨g,a * 4+2,none⟩=false:=HR5.out.free _;have f3:w5.frozen? ⟨g,a * 4+3,none⟩=false:=HR5.out.free _;have HR6:=Lib.hid (HR5.out.put (a:=a) (by omega) y)
     have HG6:Hid (w.grownBy ((((w5.setCell ⟨g,a * 4,none⟩ (.int .i64 y.node)).setCell ⟨g,a * 4+1,none⟩ (.int .i64 y.frm)).setCell ⟨g,a * 4+2,none⟩ (.int .i64 y.til)).setCell ⟨g,a * 4+3,none⟩ (.int .i64 y.time)) (some g)) :=
      ((((HG5.out.trans (Xa0 _ _ _ _)).trans (Xa0 _ _ _ _)).trans (Xa0 _ _ _ _)).trans (Xa0 _ _ _ _))
     have hXg:X ≠ g:=fun e=>HN.out.2.2.2 e.symm;have HX6:Hid (Bk ((((w5.setCell ⟨g,a * 4,none⟩ (.int .i64 y.node)).setCell ⟨g,a * 4+1,none⟩ (.int .i64 y.frm)).setCell ⟨g,a * 4+2,none⟩ (.int .i64 y.til)).setCell ⟨g,a * 4+3,none⟩ (.int .i64 y.time)) X 81 (lbA x)) :=
      ((((HX5.out.other (p:=⟨g,a * 4,none⟩) hXg _).other (p:=⟨g,a * 4+1,none⟩) hXg _).other (p:=⟨g,a * 4+2,none⟩) hXg _).other (p:=⟨g,a * 4+3,none⟩) hXg _)
     have ha3:(0:Int)≤(a:Int):=by omega
     have ha4:(a:Int)<(l.length:Int):=by omega
     clear hrg hr hXg hs;go_wp2;go_roundw
     case rel=>exact ⟨a+1,m+1,L.set a y,by go_num,by go_num,HD2.out,HR6.out,HG6.out,HX6.out⟩
     case measure=>simp[intOf]; omega
  ·have hml2:m=l.length:=by omega
   subst hml2;have HF:Hid (L.take a=l.filter fun y => !same x y):=HD.out.end_;have hcl:=fun ty c=>Xj7 wr ty g cap a l.length c L HR.out hll ham;obtain ⟨r,hb,hr⟩:=HR.out;obtain ⟨ds,hd1,hd2,hd3,hd4⟩:=Xdl (Builtin.zeroCells z4 (l.length - a)).toList (a * 4) wr _ hb;have HGE:Hid (w.grownBy (wr.setCells g (a * 4) (Builtin.zeroCells z4 (l.length - a)).toList) (some g)):=HG.out.trans hd4;have HRE:Hid ((wr.setCells g (a * 4) (Builtin.zeroCells z4 (l.length - a)).toList).ownsRow base 81 4 (.slice (some ⟨g,0,none⟩) a cap) (l.filter fun y => !same x y).length ((l.filter fun y => !same x y).flatMap lbE.f)):=by
    have hla:(L.take a).length=a:=by rw[List.length_take]; omega
    have hfl:=Xan (E:=lbE) (L.take a);rw[hla,show lbE.k=4 from rfl] at hfl;have hfL:=Xan (E:=lbE) L;rw[show lbE.k=4 from rfl] at hfL;rw[←HF.out,hla];refine ⟨hfl,.inr ⟨g,cap,ds.toArray,rfl,HN.out.1,hd1,by have:=HN.out.2.1; omega,HN.out.2.2.1,?_,?_⟩⟩
    ·rw[List.size_toArray,hd2,List.length_append,hfL]; exact hr
    ·rw[hd3]
     conv=>lhs; rw[←List.take_append_drop a L]
     rw[List.flatMap_append,List.append_assoc,List.take_left' hfl]
   have hcc:¬ (cap=a):=by have:=HN.out.2.1; omega
   have ha3:(0:Int)≤(a:Int):=by omega
   have ha4:(a:Int)≤(l.length:Int):=by omega
   have ha5:(l.length:Int)≤(cap:Int):=by have:=HN.out.2.1; omega
   have ha6:(a:Int)≤(cap:Int):=by omega
   clear hb hr hd1 hd2 hd3 hd4 HR HG HX;generalize wr.setCells g (a * 4) (Builtin.zeroCells z4 (l.length - a)).toList=WF at HGE HRE hcl;go_wp2_with (simp only[hcl]);go_ret;exact ⟨_,rfl,HRE.out,rfl,HGE.out⟩
theorem Xq8 (w:World):Calls Tryz.prog 181 #[.int .u64 0] w fun e w' => e = .returned (.int .i64 0)∧w' = w:=by
 go_enter Tryz.func181,Tryz.ntmps181;go_wp2;go_ret;exact ⟨by kernel_rfl,rfl⟩
theorem len_nil (w:World):Calls Tryz.prog 142 #[.int .u64 0] w fun e w' => e = .returned (.int .i64 0)∧w' = w:=by
 go_enter Tryz.func142,Tryz.ntmps142;go_wp2_with fail;refine (Xq8 _).mono ?_;rintro e w1 ⟨rfl,rfl⟩;go_wp2;go_ret;exact ⟨rfl,rfl⟩
theorem Xol (A:Option Addr)(n c:Nat)(f:Value)(w:World):Calls Tryz.prog 172 #[.slice A n c,.int .i64 0,.int .i64 0,f] w fun e w' => e = .returned (.tuple #[])∧w' = w:=by
 go_enter Tryz.func172,Tryz.ntmps172;go_wp2;go_loopw [8,9] (fun i _ wr=>i = .int .i64 1∧wr=w) (fun _ _ _=>0)
 case atStart=>exact ⟨rfl,rfl⟩
 case round =>
  obtain ⟨rfl,rfl⟩:=hrel;go_wp2;go_end0;exact ⟨rfl,rfl⟩
theorem Xoa (A:Option Addr)(n c:Nat)(f:Value)(w:World):Calls Tryz.prog 141 #[.slice A n c,.int .i64 0,.int .i64 0,.int .i64 0,f] w fun e w' => e = .returned (.tuple #[])∧w' = w:=by
 go_enter Tryz.func141,Tryz.ntmps141;go_wp2_with fail;go_loopw [1,2] (fun i j wr=>i = .int .i64 0∧j = .int .i64 0∧wr=w) (fun _ _ _=>0)
 case atStart=>exact ⟨rfl,rfl,rfl⟩
 case round =>
  obtain ⟨rfl,rfl,rfl⟩:=hrel;go_wp2_with fail;refine (Xol _ _ _ _ _).mono ?_;rintro e w1 ⟨rfl,rfl⟩;go_wp2
  (try simp only[Exit.inBlock,Exit.then])
  refine bodyPost_ret (results_none rfl _ _ _) rfl ?_;exact ⟨rfl,rfl⟩
theorem Xkm (A:Option Addr)(c:Nat)(f:Value)(w:World):Calls Tryz.prog 71 #[.slice A 0 c,f] w fun e w' => e = .returned (.tuple #[])∧w' = w:=by
 go_enter Tryz.func71,Tryz.ntmps71;go_wp2_with fail;refine (len_nil _).mono ?_;rintro e w1 ⟨rfl,rfl⟩;go_wp2_with fail;refine (Xoa _ _ _ _ _).mono ?_;rintro e w1 ⟨rfl,rfl⟩;go_wp2;go_end0;exact ⟨rfl,rfl⟩
def mkD (ds:List Nat):List Deferred:=ds.map fun D => { target:=.collected D,args := #[] }
def Xa5 (W:World)(ds:List Nat):Prop:=ds.Nodup ∧ ∀D ∈ ds,W.heap[D]? = some (.deferred (some []))
def Xcf (w:World)(ds:List Nat):World:=ds.foldl (fun w D=>w.putObj D (.deferred none)) w
theorem Xco {F:Fence}{n:Nat}{P:Program}{fn:Func}{R:Ending→World→Prop}{a:Act}{v:Value}:∀ {ds:List Nat}{w:World} (_:Xa5 w ds) (_:(results fn a.tmps).run P (Xcf w ds) = .ok v (Xcf w ds)) (_:R (.returned v) (Xcf w ds)),LeavesInM F n P fn a.tmps R (mkD ds) .returning w
 | [],_,_,hr,hR=>⟨_,hr,hR⟩
 | D :: ds,w,hm,hr,hR=>by
   refine ⟨by simp,.inl ⟨D,_,rfl,run_takeDeferred (hm.2 D (by simp)),?_⟩⟩
   refine Xco (ds:=ds) ⟨(List.nodup_cons.1 hm.1).2,fun E hE=>?_⟩ hr hR;have hne:E ≠ D:=fun e=>(List.nodup_cons.1 hm.1).1 (e ▸ hE);exact (World.putObj_heap_other hne).trans (hm.2 E (by simp[hE]))
theorem Xg9:∀ {ds:List Nat}{w:World}{g:Nat},g ∉ ds→(Xcf w ds).heap[g]? = w.heap[g]?
 | [],_,_,_=>rfl
 | D :: ds,w,g,hg=>by
   have h:=Xg9 (ds:=ds) (w:=w.putObj D (.deferred none)) (g:=g) (fun h=>hg (by simp[h]))
   exact h.trans (World.putObj_heap_other (fun e=>hg (by simp[e])))
theorem Xc4 {ds:List Nat}{w:World}{g:Nat}{t:TypeId}{cs:Array Value}(hm:Xa5 w ds)(h:Bk w g t cs):Bk (Xcf w ds) g t cs:=by
 refine (Xg9 fun hg=>?_).trans h;have h1:=hm.2 g hg;rw[show w.heap[g]? = _ from h] at h1;cases h1
theorem Xm3 {ds:List Nat}{w:World}{base:Nat}{t:TypeId}{k n:Nat}{v:Value}{xs:List Value}(hm:Xa5 w ds)(h:w.ownsRow base t k v n xs):(Xcf w ds).ownsRow base t k v n xs:=by
 refine ⟨h.1,?_⟩;rcases h.2 with h | ⟨g,cap,cur,e,hb,hg,h5⟩
 ·exact .inl h
 ·exact .inr ⟨g,cap,cur,e,hb,Xc4 (t:=t) hm hg,h5⟩
theorem Xbx:∀ {ds:List Nat}{n:Nat}{w W:World},Below n w W→(∀D ∈ ds,n≤D)→Below n w (Xcf W ds)
 | [],_,_,_,h,_=>h
 | D :: ds,n,w,W,h,hd=>Xbx (ds:=ds) (Xeb h (hd D (by simp))) fun E hE=>hd E (by simp[hE])
theorem Xa5.below {W W':World}{ds:List Nat}(h:Xa5 W ds)(hb:Below W.heap.size W W'):Xa5 W' ds:=⟨h.1,fun D hD=>(hb.block D (Array.getElem?_eq_some_iff.1 (h.2 D hD)).1).trans (h.2 D hD)⟩
theorem Xa5.grown {W W':World}{ds:List Nat}{row:Option Nat}(h:Xa5 W ds)(hg:W.grownBy W' row)(hr:∀r,row=some r → ∃cs t z,W.heap[r]? = some (.cells cs t z)):Xa5 W' ds:=⟨h.1,fun D hD=>by
 refine (hg.block D (Array.getElem?_eq_some_iff.1 (h.2 D hD)).1 fun e=>?_).trans (h.2 D hD);obtain ⟨cs,t,z,hc⟩:=hr D e.symm;rw[h.2 D hD] at hc;cases hc⟩
theorem Xa5.set {W:World}{ds:List Nat}(h:Xa5 W ds){g i:Nat}{t:TypeId}{cs:Array Value}(hb:Bk W g t cs)(u:Value):Xa5 (W.setCell ⟨g,i,none⟩ u) ds :=
 h.grown (Xa0 W g i u) fun r e=>by cases e; exact ⟨_,_,_,hb⟩
theorem Xa5.owned {W W':World}{ds:List Nat}{B:Nat}{row:Option Nat}(h:Xa5 W ds)(hB:∀D ∈ ds,D<B)(hg:W.grownBy W' row)(hr:∀r,row=some r→B≤r ∧ ∃o:Obj,W.heap[r]? = some o∧o.isCells=false):Xa5 W' ds:=⟨h.1,fun D hD=>by
 refine (hg.block D (Array.getElem?_eq_some_iff.1 (h.2 D hD)).1 fun e=>?_).trans (h.2 D hD);have h1:=(hr D e.symm).1;have h2:=hB D hD;omega⟩
theorem Xa5.other {W:World}{ds:List Nat}{B o:Nat}{u:Value}(h:Xa5 W ds)(hB:∀D ∈ ds,D<B):Xa5 (W.setCell ⟨B,o,none⟩ u) ds:=⟨h.1,fun D hD=>(Below.heap_setCell W ⟨B,o,none⟩ u D (by have:=hB D hD; show D ≠ B; omega)).trans (h.2 D hD)⟩
theorem Xa5.lt {W:World}{ds:List Nat}(h:Xa5 W ds):∀D ∈ ds,D<W.heap.size:=fun D hD=>(Array.getElem?_eq_some_iff.1 (h.2 D hD)).1
theorem Xa5.cons {W:World}{ds:List Nat}(h:Xa5 W ds){D:Nat}(hD:W.heap[D]? = some (.deferred (some [])))(hn:D ∉ ds):Xa5 W (D :: ds) :=
 ⟨List.nodup_cons.2 ⟨hn,h.1⟩,fun E hE=>by
  rcases List.mem_cons.1 hE with e | e
  ·rw[e]; exact hD
  ·exact h.2 E e⟩
theorem Xdf {W:World}{base:Nat}{t:TypeId}{k n:Nat}{v:Value}{xs:List Value}(h:W.ownsRow base t k v n xs):∀r,v.ownBlock=some r → ∃cs t z,W.heap[r]? = some (.cells cs t z):=by
 intro r e;rcases h.2 with ⟨rfl,_⟩ | ⟨g,cap,cur,rfl,_,hg,_⟩
 ·cases e
 ·cases e;exact ⟨_,_,_,hg⟩
theorem Xbp {W:World}{base:Nat}{t:TypeId}{k n:Nat}{v:Value}{xs:List Value}(h:W.ownsRow base t k v n xs):∀r,v.ownBlock=some r→base≤r∧r<W.heap.size:=by
 intro r e;rcases h.2 with ⟨rfl,_⟩ | ⟨g,cap,cur,rfl,hb,hg,_⟩
 ·cases e
 ·cases e;exact ⟨hb,(Array.getElem?_eq_some_iff.1 hg).1⟩
structure LbV (n0 G:Nat)(w:World)(PK:List Nat)(D O:List Lab)(vd vo:Value)(W:World):Prop where
 g:Bk W n0 74 #[.pointer (some ⟨G,0,none⟩)]
 d:Bk W (n0+1) 57 #[vd]
 o:Bk W (n0+2) 57 #[vo]
 rd:W.ownsRow (n0+3) 81 4 vd D.length (D.flatMap lbE.f)
 ro:W.ownsRow (n0+3) 81 4 vo O.length (O.flatMap lbE.f)
 ne:vd.ownBlock=none∨vd.ownBlock ≠ vo.ownBlock
 pk:∀k ∈ PK,n0+3≤k∧some k ≠ vd.ownBlock∧some k ≠ vo.ownBlock
 be:Below n0 w W
section
variable {n0 G:Nat} {w W:World} {PK:List Nat} {D O:List Lab} {vd vo:Value}
theorem LbV.size (h:LbV n0 G w PK D O vd vo W):n0+3≤W.heap.size:=by have:=h.o.lt; omega
theorem LbV.below {W':World}(h:LbV n0 G w PK D O vd vo W)(hb:Below W.heap.size W W'):LbV n0 G w PK D O vd vo W' :=
 ⟨h.g.below hb h.g.lt,h.d.below hb h.d.lt,h.o.below hb h.o.lt,Xa6 h.rd hb,Xa6 h.ro hb,h.ne,h.pk,h.be.trans (hb.mono (by have:=h.size; omega))⟩
theorem LbV.setO {W7 W8:World}{v':Value}{O':List Lab}(h:LbV n0 G w PK D O vd vo W)(hb:Below W.heap.size W W7)(hg:W7.grownBy W8 vo.ownBlock)(hr:W8.ownsRow (n0+3) 81 4 v' O'.length (O'.flatMap lbE.f))(hat:v'.ownBlock=vo.ownBlock∨v'.ownBlock=some W7.heap.size)(hpk:∀k ∈ PK,k<W7.heap.size) :
  LbV n0 G w PK D O' vd v' (W8.setCell ⟨n0+2,0,none⟩ v')∧Bk W8 (n0+2) 57 #[vo]:=by
 have h7:=h.below hb;have up:∀ {b:Nat} {t:TypeId} {cs:Array Value},t ≠ 81→Bk W7 b t cs→Bk W8 b t cs:=fun {b t cs} ht hb=>hb.grown hg (Xa1 hb ht h7.ro);have b1:=up (by decide) h7.g
 have b2:=up (by decide) h7.d
 have b3:=up (by decide) h7.o
 have hvd:vd.ownBlock=none∨vd.ownBlock ≠ v'.ownBlock:=by
  rcases hat with e | e
  ·rw[e]; exact h7.ne
  ·rw[e];cases hc:vd.ownBlock with
   | none=>exact .inl rfl
   | some b =>
     refine .inr fun e2=>?_;have:=(Xbp h7.rd b hc).2;cases e2;omega
 have hrd8:W8.ownsRow (n0+3) 81 4 vd D.length (D.flatMap lbE.f):=h7.rd.kept hg h7.ne;refine ⟨⟨b1.other (p:=⟨n0+2,0,none⟩) (by show n0 ≠ n0+2; omega) _,b2.other (p:=⟨n0+2,0,none⟩) (by show n0+1 ≠ n0+2; omega) _,b3.put 0 v',?_,?_,hvd,fun k hk=>?_,?_⟩,b3⟩
 ·exact hrd8.kept (Xa0 W8 (n0+2) 0 v') (.inr (Xa1 b3 (by decide) hrd8).symm)
 ·exact hr.kept (Xa0 W8 (n0+2) 0 v') (.inr (Xa1 b3 (by decide) hr).symm)
 ·obtain ⟨p1,p2,p3⟩:=h7.pk k hk;refine ⟨p1,p2,?_⟩;rcases hat with e | e
  ·rw[e]; exact p3
  ·rw[e];intro e2;have:=hpk k hk;cases e2;omega
 ·refine (h7.be.grown hg (by have:=h7.size; omega) (fun k e=>?_)).setCell (p:=⟨n0+2,0,none⟩) (by show n0≤n0+2; omega) _
  have:=(Xbp h7.ro k e).1;omega
theorem LbV.setD {W7 W8:World}{v':Value}{D':List Lab}(h:LbV n0 G w PK D O vd vo W)(hb:Below W.heap.size W W7)(hg:W7.grownBy W8 vd.ownBlock)(hr:W8.ownsRow (n0+3) 81 4 v' D'.length (D'.flatMap lbE.f))(hat:v'.ownBlock=vd.ownBlock∨v'.ownBlock=some W7.heap.size)(hpk:∀k ∈ PK,k<W7.heap.size) :
  LbV n0 G w PK D' O v' vo (W8.setCell ⟨n0+1,0,none⟩ v')∧Bk W8 (n0+1) 57 #[vd]:=by
 have h7:=h.below hb;have up:∀ {b:Nat} {t:TypeId} {cs:Array Value},t ≠ 81→Bk W7 b t cs→Bk W8 b t cs:=fun {b t cs} ht hb=>hb.grown hg (Xa1 hb ht h7.rd);have b1:=up (by decide) h7.g
 have b2:=up (by decide) h7.d
 have b3:=up (by decide) h7.o
 have hvo:vo.ownBlock=none∨vo.ownBlock ≠ v'.ownBlock:=by
  cases hc:vo.ownBlock with
  | none=>exact .inl rfl
  | some b =>
    refine .inr fun e2=>?_;rcases hat with e | e
    ·rw[e] at e2;rcases h7.ne with h8 | h8
     ·rw[h8] at e2; cases e2
     ·exact h8 (by rw[hc]; exact e2.symm)
    ·rw[e] at e2;have:=(Xbp h7.ro b hc).2;cases e2;omega
 have hne:v'.ownBlock=none∨v'.ownBlock ≠ vo.ownBlock:=by
  rcases hvo with e | e
  ·rw[e];cases v'.ownBlock with
   | none=>exact .inl rfl
   | some b=>exact .inr (by simp)
  ·exact .inr (fun e2=>e e2.symm)
 have hro8:W8.ownsRow (n0+3) 81 4 vo O.length (O.flatMap lbE.f):=h7.ro.kept hg (by
  rcases h7.ne with e | e
  ·rw[e];cases vo.ownBlock with
   | none=>exact .inl rfl
   | some b=>exact .inr (by simp)
  ·exact .inr (fun e2=>e e2.symm))
 refine ⟨⟨b1.other (p:=⟨n0+1,0,none⟩) (by show n0 ≠ n0+1; omega) _,b2.put 0 v',b3.other (p:=⟨n0+1,0,none⟩) (by show n0+2 ≠ n0+1; omega) _,?_,?_,hne,fun k hk=>?_,?_⟩,b2⟩
 ·exact hr.kept (Xa0 W8 (n0+1) 0 v') (.inr (Xa1 b2 (by decide) hr).symm)
 ·exact hro8.kept (Xa0 W8 (n0+1) 0 v') (.inr (Xa1 b2 (by decide) hro8).symm)
 ·obtain ⟨p1,p2,p3⟩:=h7.pk k hk;refine ⟨p1,?_,p3⟩;rcases hat with e | e
  ·rw[e]; exact p2
  ·rw[e];intro e2;have:=hpk k hk;cases e2;omega
 ·refine (h7.be.grown hg (by have:=h7.size; omega) (fun k e=>?_)).setCell (p:=⟨n0+1,0,none⟩) (by show n0≤n0+1; omega) _
  have:=(Xbp h7.rd k e).1;omega
theorem LbV.protect (h:LbV n0 G w PK D O vd vo W){k:Nat}(hk:W.heap.size≤k):LbV n0 G w (k :: PK) D O vd vo W :=
 ⟨h.g,h.d,h.o,h.rd,h.ro,h.ne,fun j hj=>by
  rcases List.mem_cons.1 hj with e | e
  ·subst e;refine ⟨by have:=h.size; omega,fun e=>?_,fun e=>?_⟩
   ·have:=(Xbp h.rd _ e.symm).2; omega
   ·have:=(Xbp h.ro _ e.symm).2; omega
  ·exact h.pk j e,h.be⟩
theorem LbV.forget (h:LbV n0 G w PK D O vd vo W):LbV n0 G w [] D O vd vo W:=⟨h.g,h.d,h.o,h.rd,h.ro,h.ne,fun j hj=>by simp at hj,h.be⟩
theorem LbV.owned {B:Nat}{W':World}{row:Option Nat}(hB:n0+3≤B)(hn:n0≤w.heap.size)(h:LbV n0 G w PK D O vd vo W)(hg:W.grownBy W' row)(hr:∀r,row=some r→B≤r ∧ ∃o:Obj,W.heap[r]? = some o∧o.isCells=false):LbV n0 G w PK D O vd vo W':=by
 have nr:∀ {k n:Nat} {v:Value} {xs:List Value},W.ownsRow (n0+3) 81 k v n xs→v.ownBlock=none∨v.ownBlock ≠ row:=fun {k n v xs} h1=>by
  cases hv:v.ownBlock with
  | none=>exact .inl rfl
  | some b =>
    refine .inr fun e=>?_;obtain ⟨_,o,ho,hc⟩:=hr b e.symm;obtain ⟨cs,t,z,h2⟩:=Xdf h1 b hv;rw[h2] at ho;cases ho;cases hc
 exact ⟨Xa9 (β:=Unit) B _ _ _ () _ _ row h.g hg hr,Xa9 (β:=Unit) B _ _ _ () _ _ row h.d hg hr,Xa9 (β:=Unit) B _ _ _ () _ _ row h.o hg hr,h.rd.kept hg (nr h.rd),h.ro.kept hg (nr h.ro),h.ne,h.pk,ownFrom_below (β:=Unit) hn (by omega) () _ _ row h.be hg hr⟩
theorem LbV.blind {B o:Nat}{u:Value}(hB:B ∈ PK)(h:LbV n0 G w PK D O vd vo W):LbV n0 G w PK D O vd vo (W.setCell ⟨B,o,none⟩ u):=by
 obtain ⟨p1,p2,p3⟩:=h.pk B hB;refine ⟨h.g.other (p:=⟨B,o,none⟩) (by show n0 ≠ B; omega) _,h.d.other (p:=⟨B,o,none⟩) (by show n0+1 ≠ B; omega) _,h.o.other (p:=⟨B,o,none⟩) (by show n0+2 ≠ B; omega) _,h.rd.kept (Xa0 W B o u) (.inr p2.symm),h.ro.kept (Xa0 W B o u) (.inr p3.symm),h.ne,h.pk,h.be.setCell (p:=⟨B,o,none⟩) (by show n0≤B; omega) _⟩
theorem LbV.kp {n₀ BG BL:Nat}{W7 W8:World}{v':Value}(h:LbV n0 G w PK D O vd vo W)(hb:Below W.heap.size W W7)(hg:W7.grownBy W8 vo.ownBlock)(hn:n₀ ≤ n0)(h1:BG ∈ PK)(h2:BL ∈ PK):KpM n₀ BG BL W (W8.setCell ⟨n0+2,0,none⟩ v'):=by
 have h7:=h.below hb;refine ⟨?_,fun k cs t ht hk=>?_,fun k cs t hkk hk=>?_⟩
 ·refine ((((Below.refl n₀ W).trans (hb.mono (by have:=h.size; omega))).grown hg (by have:=h7.size; omega) (fun k e=>?_))).setCell (p:=⟨n0+2,0,none⟩) (by show n₀ ≤ n0+2; omega) _
  have:=(Xbp h7.ro k e).1;omega
 ·have hk7:=hk.below hb hk.lt;have hne:t ≠ 81∧t ≠ 57:=by rcases ht with rfl | rfl | rfl <;> decide
  refine (hk7.grown hg (Xa1 hk7 hne.1 h7.ro)).other (p:=⟨n0+2,0,none⟩) (fun e=>?_) _;have e2:k=n0+2:=e;subst e2;have:=(show W7.heap[n0+2]? = _ from hk7).symm.trans h7.o;simp at this;exact hne.2 this.2
 ·have hk7:=hk.below hb hk.lt;have hpk:k ∈ PK:=by rcases hkk with rfl | rfl <;> assumption
  obtain ⟨p1,p2,p3⟩:=h7.pk k hpk;exact (hk7.grown hg p3).other (p:=⟨n0+2,0,none⟩) (by show k ≠ n0+2; omega) _
theorem LbV.keeps {W7 W8:World}{v':Value}(h:LbV n0 G w PK D O vd vo W)(hb:Below W.heap.size W W7)(hg:W7.grownBy W8 vo.ownBlock):KeepsOthers W (W8.setCell ⟨n0+2,0,none⟩ v'):=by
 have h7:=h.below hb;refine ((Xaj hb).trans (KeepsOthers.of_grownBy hg fun j o ej hj=>?_)).trans (KeepsOthers.setCell _ _ _);obtain ⟨cs,t,z,hc⟩:=Xdf h7.ro j ej;rw[hc] at hj;cases hj
 rfl
end
theorem Xpw {P:Program}{ops:Array Oper}{Q:Exit→Act→World→Prop}{S:World→Prop}{id:Nat}{a:Act}{w:World}(hm:P.follows .mixedOrders=true)(hS:S w.drew)
  (h:S w.drew→wpAnyH P .any ops (NP Q) S ops.size (Array.replicate ops.size false) a w.drew):(Code.region id ops true).wp P Q a w :=
 wp_mono (wp_region_held_drew hm hS h) fun _ _ _ h=>h.2
theorem Xsx:(Tryz.prog.info? 81).map (fun i=>(i.zero,i.size,i.bytes))=some (some (.agg #[.int .i64 0,.int .i64 0,.int .i64 0,.int .i64 0]),4,32):=by kernel_rfl
theorem Xf4 {w:World}{o:Oper}{a:Act}{K:Act→World→Prop}{Q:Exit→Act→World→Prop}(s x:Operand)(ho:o.op = .call { callee:=.builtin .append,args := #[s,x],argTypes := #[57,57] })
  (base:Nat) (v:Value) (n:Nat) (xs:List Value) (hs:a.eval s=v) (hown:w.ownsRow base 81 4 v n xs) (ad:Addr) (news:List Value) (hx:a.eval x = .slice (some ad) 1 1) (hl:news.length=4) (hnews:∀j u,news[j]? = some u→w.cell? (ad.add j)=some u) (h1:∀u ∈ news,u.oneCell' = true)
  (hn:n≤1000000000) (hbase:base≤w.heap.size)
  (h:∀v' w',w'.ownsRow base 81 4 v' (n+1) (xs ++ news)→w.grownBy w' v.ownBlock→(v'.ownBlock=v.ownBlock∨v'.ownBlock=some w.heap.size)→K (a.put o.dst v') w'):o.wp Tryz.prog a w K Q:=by
 obtain ⟨i0,hi0,hz0,hz1,hz2⟩:=info_parts Xsx;obtain ⟨v',w',hr,h2,h3,h4,h5⟩:=run_append_own_at (P:=Tryz.prog) w base 57 o.type 81 i0 _ 4 32 Tryz.underlying57 hi0 hz0 hz1 hz2 rfl (by decide) v n xs hown ad 1 1 news (by rw[hl]) hnews h1 (by unfold maxLen; omega) (by omega) hbase
 unfold Oper.wp execOp;simp only[ho,resolve,invoke,builtin,Sem.run_bind,Sem.run_pure,Result.andThen_ok,List.map_toArray,List.map_cons,List.map_nil,hs,hx,hr];exact h v' w' h2 h3 h5
end Go.Proofs.YtebkgbmijocdjaaGreat.Tp
