/- A part of the proof for the ledger. No condition beyond those that each theorem states. -/
import Derived.Test.YtebkgbmijocdjaaGreatZ54
set_option maxHeartbeats 32000000
set_option maxRecDepth 100000
set_option linter.unusedVariables false
set_option linter.unusedSimpArgs false
namespace Go.Proofs.YtebkgbmijocdjaaGreat.Tp
open Go Go.RowKit
theorem Xrh (Aq:Option Addr)(cq:Nat)(Ac:Option Addr)(cc:Nat)(p:Pln)(R:Option Addr)(cR:Nat)(rs:List Rq)(w:World)(hp:Xas w Aq cq Ac cc p)(hr:SlAt rqE w R rs) :
  Calls Tryz.prog 4 #[.agg (plA Aq cq Ac cc p),.slice R rs.length cR] w fun e w' => e = .returned (.bool true)∧Below w.heap.size w w':=by
 obtain ⟨W,n0,hW,hn,HSZ,HB,HK0⟩:=box1 w 25 (plA Aq cq Ac cc p);have HP:Hid (∀w',Below n0 w w' → Xas w' Aq cq Ac cc p):=fun w' hb=>hp.below (by rw[hn]; exact hb)
 have HRS:Hid (∀w',Below n0 w w' → SlAt rqE w' R rs):=fun w' hb=>hr.below (by rw[hn]; exact hb)
 have HG:=Lib.hid (Xf1 Aq cq Ac cc p R rs.length cR W);have a0:=HK0.out.c2;clear hp hr;go_enter Tryz.func4,Tryz.ntmps4;go_wp2_with fail;clear a0 hW;refine HG.out.mono ?_;rintro e w1 ⟨b,rfl,hb5,hb1⟩;have HM0:=Lib.hid (HK0.out.below hb1 HK0.out.lt);have HB1:Hid (Below n0 w w1):=HB.out.trans (hb1.mono (by have:=HSZ.out; omega))
 have HN1:Hid (n0<w1.heap.size):=HM0.out.lt;clear hb1 HK0 HB HG;cases b with
 | true =>
   clear hb5;go_wp2_with fail;refine (Xb8 w1).mono ?_;rintro e w2 ⟨rfl,hb2⟩;have HB2:Hid (Below n0 w w2):=HB1.out.trans (hb2.mono (by have:=HN1.out; omega))
   clear hb2;go_wp2;go_ret;exact ⟨rfl,by rw[hn]; exact HB2.out⟩
 | false =>
   have HLEN:Hid (rs.length≤5):=hb5 rfl;have HAC:=Lib.hid (Xlx Aq cq Ac cc p R cR rs w1 (HP.out _ HB1.out) (HRS.out _ HB1.out) HLEN.out);have a0:=HM0.out.c2;clear hb5;go_wp2_with fail;clear a0;refine HAC.out.mono ?_;rintro e w2 ⟨hb2,Ao,co,LL,Av,cv,VV,rfl,hst,hl6,hsl,hsv,hlg⟩;have HB2:Hid (Below n0 w w2):=HB1.out.trans (hb2.mono (by have:=HN1.out; omega))
   have HN2:Hid (n0<w2.heap.size):=by have:=hb2.size; have:=HN1.out; show _<_; omega
   have HST:=Lib.hid hst;have HL6:Hid (LL.length≤6):=hl6;have HSL:=Lib.hid hsl;have HSV:=Lib.hid hsv;have HLG:=Lib.hid hlg;clear hb2 hst hl6 hsl hsv hlg HAC HB1 HN1 HM0;go_wp2;go_loopw [7] (fun i wr => ∃n:Nat,1≤n∧n≤7∧i = .int .i64 n∧Below w2.heap.size w2 wr) (fun i _=>LL.length - (intOf i).toNat)
   case atStart=>exact ⟨1,Nat.le_refl _,by omega,rfl,Below.refl _ _⟩
   case round =>
    obtain ⟨n,hn1,hn7,rfl,hb⟩:=hrel;have HBR:=Lib.hid hb;have HBW:Hid (Below n0 w wr):=HB2.out.trans (hb.mono (by have:=HN2.out; omega))
    have HNR:Hid (n0≤wr.heap.size):=by have:=hb.size; have:=HN2.out; show _≤_; omega
    clear hb
    by_cases hlt:n<LL.length
    ·obtain ⟨m,rfl⟩:∃m,n=m+1:=⟨n - 1,by omega⟩
     obtain ⟨bL,oL,rfl,hrow⟩:=(HSL.out.below HBR.out).one (by omega)
     obtain ⟨⟨aA,ac,ats⟩,ha⟩:∃a,LL[m]? = some a:=⟨_,List.getElem?_eq_getElem (by omega)⟩
     obtain ⟨⟨bA,bc,bts⟩,hb⟩:∃b,LL[m+1]? = some b:=⟨_,List.getElem?_eq_getElem hlt⟩;obtain ⟨v,hv⟩:∃v,VV[m]? = some v:=⟨_,List.getElem?_eq_getElem (by have:=HST.out.1; omega)⟩
     have HS:Hid (Xsj ats bts v):=HST.out.2 m _ _ v ha hb hv;have HA:Hid (∀w',Below w2.heap.size w2 w' → LgAt w' Aq cq Ac cc p aA ac ats):=fun w' h=>(HLG.out _ (List.mem_of_getElem? ha)).below h;have HBB:Hid (∀w',Below w2.heap.size w2 w' → LgAt w' Aq cq Ac cc p bA bc bts):=fun w' h=>(HLG.out _ (List.mem_of_getElem? hb)).below h;have ca:wr.cell? ⟨bL,oL+m * 4+3,none⟩=some (.slice aA ats.length ac):=hrow m _ ha 3 _ rfl;have cb:wr.cell? ⟨bL,oL+(m+1) * 4+3,none⟩=some (.slice bA bts.length bc):=hrow (m+1) _ hb 3 _ rfl;obtain ⟨bW,oW,rfl,hrowV⟩:=(HSV.out.below HBR.out).one (show 0<VV.length by have:=(List.getElem?_eq_some_iff.1 hv).1; omega)
     have cm:wr.cell? ⟨bW,oW+m * 5+2,none⟩=some (.slice v.Am v.m v.cm):=hrowV m v hv 2 _ rfl;have cd:wr.cell? ⟨bW,oW+m * 5+3,none⟩=some (.slice v.Ad v.d v.cd):=hrowV m v hv 3 _ rfl;have HCA:=Lib.hid ca;have HCB:=Lib.hid cb;have HCM:=Lib.hid cm;have HCD:=Lib.hid cd;have HVL:Hid (m<VV.length):=(List.getElem?_eq_some_iff.1 hv).1;have e1:((m+1:Nat):Int)=(m:Int)+1:=by omega
     rw[e1];have hw1:IntKind.i64.wrap ((m:Int)+1 - 1)=(m:Int):=by rw[IntWalk.i64_in _ (by omega)]; omega
     have hw2:(m:Int)+1 - 1=(m:Int):=by omega
     have hw3:(m:Int)+1<(LL.length:Int):=by omega
     have hw4:(0:Int)≤(m:Int):=by omega
     have hw5:(m:Int)<(LL.length:Int):=by omega
     have hw6:(0:Int)≤(m:Int)+1:=by omega
     have hw7:(m:Int)≤6:=by omega
     have hal:ats.length≤100:=(HA.out _ HBR.out).tm;clear hrow ha hb hv hrowV;obtain ⟨wo,hwo⟩:∃u:World,u=wr:=⟨_,rfl⟩;subst hwo;go_wp2;go_loopw [35] (fun i wq => ∃k:Nat,k≤ats.length∧i = .int .i64 k∧Below wo.heap.size wo wq) (fun i _=>ats.length - (intOf i).toNat)
     case atStart=>exact ⟨0,Nat.zero_le _,rfl,Below.refl _ _⟩
     case round =>
      obtain ⟨k,hk,rfl,hbi⟩:=hrel;have HBI:=Lib.hid hbi;have HB2I:Hid (Below w2.heap.size w2 wr):=Xa HBR.out hbi;have HBWI:Hid (Below n0 w wr):=HBW.out.trans (hbi.mono HNR.out);have HNRI:Hid (n0≤wr.heap.size):=by have:=hbi.size; have:=HNR.out; show _≤_; omega
      clear hbi ca cb cm cd
      by_cases hlk:k<ats.length
      ·have hkb:k<bts.length:=by have:=HS.out.1.1; omega
       obtain ⟨ba,oa,rfl,hrA⟩:=(HA.out wr HB2I.out).t.one (by omega)
       obtain ⟨x,hx⟩:∃x,ats[k]? = some x:=⟨_,List.getElem?_eq_getElem hlk⟩;obtain ⟨y,hy⟩:∃y,bts[k]? = some y:=⟨_,List.getElem?_eq_getElem hkb⟩;obtain ⟨Ax,cx,hrx,hhx⟩:=hrA k x hx;have HXY:=Lib.hid (HS.out.2 k x y hx hy);obtain ⟨W3,g3,hW3,hg3,HSZ3,HA3,HK3⟩:=box1 wr 55 (tkA x Ax cx);have hal3:Below wr.heap.size wr W3:=by rw[hg3]; exact HA3.out
       have HB3:Hid (Below w2.heap.size w2 W3):=Xa HB2I.out hal3;obtain ⟨bb,ob,rfl,hrB⟩:=(HBB.out W3 HB3.out).t.one (by omega)
       obtain ⟨Ay,cy,hry,hhy⟩:=hrB k y hy;obtain ⟨W4,g4,hW4,hg4,HSZ4,HA4,HK4⟩:=box1 W3 55 (tkA y Ay cy);have hal4:Below W3.heap.size W3 W4:=by rw[hg4]; exact HA4.out
       have hb4:Below wr.heap.size wr W4:=Xa hal3 hal4;have HHX:Hid (HpAt W4 Ax cx x.hops):=hhx.below hb4;have HHY:Hid (HpAt W4 Ay cy y.hops):=hhy.below hal4;have HX4:=Lib.hid (HK3.out.below hal4 HK3.out.lt);have hxl:x.hops.length≤4000:=(HA.out wr HB2I.out).hm x (List.mem_of_getElem? hx);have hyl:y.hops.length≤4000:=(HBB.out W3 HB3.out).hm y (List.mem_of_getElem? hy);have HYL:Hid (y.hops.length≤4000):=hyl;have HST4:=Lib.hid (Xi4 x y Ax cx Ay cy W4 HHX.out HHY.out (by omega))
       have HBW4:Hid (Below n0 w W4):=HBWI.out.trans (hb4.mono HNRI.out);have HBI4:Hid (Below wo.heap.size wo W4):=Xa HBI.out hb4;have HZ4:Hid (n0≤W4.heap.size∧wo.heap.size≤W4.heap.size):=by have:=hb4.size; have:=HNRI.out; have:=HBI.out.size; show _∧_; omega
       have ca:wr.cell? ⟨bL,oL+m * 4+3,none⟩=some (.slice (some ⟨ba,oa,none⟩) ats.length ac):=(HBI.out.cell (p:=⟨bL,oL+m * 4+3,none⟩) (World.block_lt_of_cell? _ _ HCA.out)).trans HCA.out;have cb:W3.cell? ⟨bL,oL+(m+1) * 4+3,none⟩=some (.slice (some ⟨bb,ob,none⟩) bts.length bc):=((Xa HBI.out hal3).cell (p:=⟨bL,oL+(m+1) * 4+3,none⟩) (World.block_lt_of_cell? _ _ HCB.out)).trans HCB.out;have x0:wr.cell? ⟨ba,oa+k * 11,none⟩=some (.int .i64 x.num):=hrx 0 _ rfl;have x1:wr.cell? ⟨ba,oa+k * 11+1,none⟩=some (.int .i64 x.rq.src):=hrx 1 _ rfl;have x2:wr.cell? ⟨ba,oa+k * 11+2,none⟩=some (.int .i64 x.rq.dst):=hrx 2 _ rfl;have x3:wr.cell? ⟨ba,oa+k * 11+3,none⟩=some (.int .i64 x.rq.size):=hrx 3 _ rfl;have x4:wr.cell? ⟨ba,oa+k * 11+4,none⟩=some (.int .i64 x.rq.ready):=hrx 4 _ rfl;have x5:wr.cell? ⟨ba,oa+k * 11+5,none⟩=some (.int .i64 x.rq.dead):=hrx 5 _ rfl;have x6:wr.cell? ⟨ba,oa+k * 11+6,none⟩=some (.int .i64 x.rq.prio):=hrx 6 _ rfl;have x7:wr.cell? ⟨ba,oa+k * 11+7,none⟩=some (.bool x.rq.cust):=hrx 7 _ rfl;have x8:wr.cell? ⟨ba,oa+k * 11+8,none⟩=some (.slice Ax x.hops.length cx):=hrx 8 _ rfl;have x9:wr.cell? ⟨ba,oa+k * 11+9,none⟩=some (.int .i64 x.st):=hrx 9 _ rfl;have x10:wr.cell? ⟨ba,oa+k * 11+10,none⟩=some (.int .i64 x.til):=hrx 10 _ rfl;have y0:W3.cell? ⟨bb,ob+k * 11,none⟩=some (.int .i64 y.num):=hry 0 _ rfl
       have y1:W3.cell? ⟨bb,ob+k * 11+1,none⟩=some (.int .i64 y.rq.src):=hry 1 _ rfl;have y2:W3.cell? ⟨bb,ob+k * 11+2,none⟩=some (.int .i64 y.rq.dst):=hry 2 _ rfl;have y3:W3.cell? ⟨bb,ob+k * 11+3,none⟩=some (.int .i64 y.rq.size):=hry 3 _ rfl;have y4:W3.cell? ⟨bb,ob+k * 11+4,none⟩=some (.int .i64 y.rq.ready):=hry 4 _ rfl;have y5:W3.cell? ⟨bb,ob+k * 11+5,none⟩=some (.int .i64 y.rq.dead):=hry 5 _ rfl;have y6:W3.cell? ⟨bb,ob+k * 11+6,none⟩=some (.int .i64 y.rq.prio):=hry 6 _ rfl;have y7:W3.cell? ⟨bb,ob+k * 11+7,none⟩=some (.bool y.rq.cust):=hry 7 _ rfl;have y8:W3.cell? ⟨bb,ob+k * 11+8,none⟩=some (.slice Ay y.hops.length cy):=hry 8 _ rfl;have y9:W3.cell? ⟨bb,ob+k * 11+9,none⟩=some (.int .i64 y.st):=hry 9 _ rfl;have y10:W3.cell? ⟨bb,ob+k * 11+10,none⟩=some (.int .i64 y.til):=hry 10 _ rfl;obtain ⟨p0,p1,p2,p3,p4,p5,p6,p7,p8,p9,p10⟩:=HX4.out.c11;have q0:=HK4.out.c11;have hk0:(0:Int)≤(k:Int):=by omega
       have hk1:(k:Int)<(ats.length:Int):=by omega
       have hk2:(k:Int)<(bts.length:Int):=by omega
       have hk3:¬ ((bts.length:Int)≤(k:Int)):=by omega
       have hk4:decide ((k:Int) ≥ (bts.length:Int))=false:=by simp; omega
       have hk5:(k:Int)≤100:=by omega
       clear hrA hx hy hrx hhx hal3 hrB hry hhy hal4 hb4 hxl hyl HA3 HA4;go_wp2_with fail;clear x0 x1 x2 x3 x4 x5 x6 x7 x8 x9 x10 y0 y1 y2 y3 y4 y5 y6 y7 y8 y9 y10 p0 p1 p2 p3 p4 p5 p6 p7 p8 p9 p10 q0 hW3 hg3 hW4 hg4 ca cb;refine HST4.out.mono ?_;rintro e w5 ⟨sm,rfl,hsm,hb5⟩;have HX5:=Lib.hid (HX4.out.below hb5 HX4.out.lt);have HY5:=Lib.hid (HK4.out.below hb5 HK4.out.lt);have HHY5:=Lib.hid (HHY.out.below hb5);have HBI5:Hid (Below wo.heap.size wo w5):=HBI4.out.trans (hb5.mono HZ4.out.2);have HSM:Hid (sm=false→y ≠ x):=fun e h=>by have:=hsm h.symm; rw[e] at this; cases this
       have cm:w5.cell? ⟨bW,oW+m * 5+2,none⟩=some (.slice v.Am v.m v.cm):=(HBI5.out.cell (p:=⟨bW,oW+m * 5+2,none⟩) (World.block_lt_of_cell? _ _ HCM.out)).trans HCM.out;have cd:w5.cell? ⟨bW,oW+m * 5+3,none⟩=some (.slice v.Ad v.d v.cd):=(HBI5.out.cell (p:=⟨bW,oW+m * 5+3,none⟩) (World.block_lt_of_cell? _ _ HCD.out)).trans HCD.out;clear hb5 hsm HX4 HK3 HK4 HHX HHY HST4 HBI4 HBW4;obtain ⟨p0,p1,p2,p3,p4,p5,p6,p7,p8,p9,p10⟩:=HX5.out.c11;have q0:=HY5.out.c11;have hv1:(m:Int)<(VV.length:Int):=by have:=HVL.out; omega
       have hv2:(v.m:Int)+(v.d:Int)≤1000:=by have:=HS.out.1.2; omega
       have hv3:(0:Int)≤(v.m:Int)∧(0:Int)≤(v.d:Int):=by omega
       have hv4:IntKind.i64.wrap ((v.m:Int)+(v.d:Int))=(v.m:Int)+(v.d:Int):=IntWalk.i64_in _ (by omega)
       cases hct:x.rq.cust with
       | false =>
         rw[hct] at p7;clear hct;cases sm with
         | true =>
           by_cases hp2:x.rq.prio=2
           ·have g0:(x.rq.prio == 2)=true:=by simpa using hp2
            clear hp2;go_upto_region 16 with fail
            go_quiet (fail);go_upto_region 18 with fail
            go_quiet (fail);go_wp2;go_roundw
            case rel=>exact ⟨k+1,by omega,by go_num,Xa4 HBI5.out _⟩
            case measure=>simp[intOf]; omega
           ·have g0:(x.rq.prio == 2)=false:=by simpa using hp2
            clear hp2;go_upto_region 16 with fail
            go_quiet (fail);go_upto_region 18 with fail
            go_quiet (fail);go_wp2;go_roundw
            case rel=>exact ⟨k+1,by omega,by go_num,Xa4 HBI5.out _⟩
            case measure=>simp[intOf]; omega
         | false =>
           have hne:=HSM.out rfl;have hp2:¬ x.rq.prio=2:=fun h=>hne (HXY.out.1 h);have hsum:=HXY.out.2.2 hne;have g0:(x.rq.prio == 2)=false:=by simpa using hp2
           have g1:(((v.m:Int)+(v.d:Int)) == 0)=false:=by rw[beq_eq_false_iff_ne]; omega
           clear hne hp2 hsum;go_upto_region 16 with fail
           go_quiet (fail);go_upto_region 18 with fail
           go_quiet (fail);go_wp2;go_roundw
           case rel=>exact ⟨k+1,by omega,by go_num,Xa4 HBI5.out _⟩
           case measure=>simp[intOf]; omega
       | true =>
         rw[hct] at p7;obtain ⟨hs1,hs2,hs3⟩:=HXY.out.2.1 hct;clear hct;obtain ⟨j,z,hmk,hz,hza⟩:=Xmk hs2;obtain ⟨bh,oh,rfl,hrowh⟩:=HHY5.out.s.one (by omega)
         have hz3:w5.cell? ⟨bh,oh+j * 4+3,none⟩=some (.int .i64 (Xac y.hops)):=by
          rw[←hza];exact hrowh j z hz 3 _ rfl
         have hm1:(y.hops.length:Int)=(j:Int)+1:=by omega
         have hm2:((y.hops.length:Int) - 1)=(j:Int):=by omega
         have hm3:((y.hops.length:Int) == 0)=false:=by rw[beq_eq_false_iff_ne]; omega
         have hm4:(0:Int)≤(j:Int):=by omega
         have hm5:(j:Int)≤4000:=by have:=HYL.out; omega
         have hm6:(j:Int)<(y.hops.length:Int):=by omega
         have hm7:IntKind.i64.wrap ((y.hops.length:Int) - 1)=(j:Int):=by rw[hm2]; exact IntWalk.i64_in _ (by omega)
         have hn8:IntKind.i64.wrap (j:Int)=(j:Int):=IntWalk.i64_in _ (by omega)
         have hn9:IntKind.i64.wrap ((j:Int)+1 - 1)=(j:Int):=by rw[show (j:Int)+1 - 1=(j:Int) by omega]; exact hn8
         have hn10:(((j:Int)+1) == 0)=false:=by rw[beq_eq_false_iff_ne]; omega
         have hn11:(j:Int)<(j:Int)+1:=by omega
         have hd1:(y.st == 1)=true:=by simpa using hs1
         have hd2:(y.st != 1)=false:=by simpa using hs1
         have hd3:decide (Xac y.hops > y.rq.dead)=false:=by simp; omega
         have hd4:decide (y.rq.dead<Xac y.hops)=false:=by simp; omega
         clear hs1 hs2 hs3 hmk hz hza hrowh;cases sm with
         | true =>
           by_cases hp2:x.rq.prio=2
           ·have g0:(x.rq.prio == 2)=true:=by simpa using hp2
            clear hp2;go_upto_region 16 with fail
            go_quiet (fail);go_upto_region 18 with fail
            go_quiet (fail);go_wp2;go_roundw
            case rel=>exact ⟨k+1,by omega,by go_num,Xa4 HBI5.out _⟩
            case measure=>simp[intOf]; omega
           ·have g0:(x.rq.prio == 2)=false:=by simpa using hp2
            clear hp2;go_upto_region 16 with fail
            go_quiet (fail);go_upto_region 18 with fail
            go_quiet (fail);go_wp2;go_roundw
            case rel=>exact ⟨k+1,by omega,by go_num,Xa4 HBI5.out _⟩
            case measure=>simp[intOf]; omega
         | false =>
           have hne:=HSM.out rfl;have hp2:¬ x.rq.prio=2:=fun h=>hne (HXY.out.1 h);have hsum:=HXY.out.2.2 hne;have g0:(x.rq.prio == 2)=false:=by simpa using hp2
           have g1:(((v.m:Int)+(v.d:Int)) == 0)=false:=by rw[beq_eq_false_iff_ne]; omega
           clear hne hp2 hsum;go_upto_region 16 with fail
           go_quiet (fail);go_upto_region 18 with fail
           go_quiet (fail);go_wp2;go_roundw
           case rel=>exact ⟨k+1,by omega,by go_num,Xa4 HBI5.out _⟩
           case measure=>simp[intOf]; omega
      ·have hlk2:decide ((k:Int)<(ats.length:Int))=false:=by simpa using hlk
       go_wp2;go_roundw
       case rel=>exact ⟨m+1+1,by omega,by have:=HL6.out; omega,by go_num,HB2I.out⟩
       case measure=>simp[intOf]; omega
    ·have hw3:decide ((n:Int)<(LL.length:Int))=false:=by simpa using hlt
     go_wp2_with fail;refine (Xb8 wr).mono ?_;rintro e wz ⟨rfl,hbz⟩;have HBZ:Hid (Below n0 w wz):=HBW.out.trans (hbz.mono HNR.out);clear hbz;go_wp2;go_ret;exact ⟨rfl,by rw[hn]; exact HBZ.out⟩
end Go.Proofs.YtebkgbmijocdjaaGreat.Tp
