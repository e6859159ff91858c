/- A part of the proof for the ledger. No condition beyond those that each theorem states. -/
import Derived.Test.YtebkgbmijocdjaaGreatZ51
set_option maxHeartbeats 32000000
set_option maxRecDepth 100000
set_option linter.unusedVariables false
set_option linter.unusedSimpArgs false
namespace Go.Proofs.YtebkgbmijocdjaaGreat.Tp
open Go Go.RowKit
def u8E:Enc UInt8:=⟨1,fun b => [.int .u8 (b.toNat:Int)],fun _=>rfl,fun b v hv=>by
 simp only[List.mem_cons,List.not_mem_nil,or_false] at hv;rcases hv with rfl
 rfl⟩
theorem Xok {W X:World}{g:Nat}{A:Option Addr}{L:List Int}{A0 A1 A2 A3:Option Addr}{n0 n1 n2 n3 c0 c1 c2 c3:Nat}(hs:SlAt intE W A L)(hb:Bk W g 53 #[.slice A0 n0 c0,.slice A1 n1 c1,.slice A2 n2 c2,.slice A3 n3 c3])(hf:Fr (fun j=>some g=some j) W X):SlAt intE X A L:=by
 cases L with
 | nil=>exact SlAt.nil _ _
 | cons m ms =>
   obtain ⟨b,off,rfl,hr⟩:=hs.one (by simp)
   refine Xj5 hs hf (fun a ha e=>?_);cases ha;obtain rfl:g=b:=Option.some.inj e;have h1:=hr 0 m rfl 0 _ rfl;rw[hb.cell] at h1
   match hi:off+0 * intE.k+0,h1 with
   | 0,h1=>cases h1
   | 1,h1=>cases h1
   | 2,h1=>cases h1
   | 3,h1=>cases h1
   | i+4,h1=>simp at h1
theorem LgAt.rows {W X:World}{Aq Ac A:Option Addr}{cq cc c:Nat}{p:Pln}{ts:List Tk}{base k n:Nat}{T:TypeId}{v:Value}{xs:List Value}(h:LgAt W Aq cq Ac cc p A c ts)(hp:Xas X Aq cq Ac cc p)(hr:W.ownsRow base T k v n xs)(hT:T ≠ 41)(hg:W.grownBy X v.ownBlock)(hd:∀a,A=some a→v.ownBlock ≠ some a.block):LgAt X Aq cq Ac cc p A c ts:=by
 obtain ⟨_,⟨ms,hms,hs,hh⟩,tl,tm,hm⟩:=h;refine ⟨hp,⟨ms,hms,Xj5 hs (Fr.grown hg) (fun a ha e=>hd a ha e),fun m hm=>Xep (hh m hm) (Fr.grown hg) (fun j cs mk hj e=>?_)⟩,tl,tm,hm⟩;obtain ⟨cs',hb⟩:=Xbn hr e;exact Xdx hb hT hj rfl
theorem Xov (Aq:Option Addr)(cq:Nat)(Ac:Option Addr)(cc:Nat)(p:Pln)(R:Option Addr)(cR:Nat)(rs:List Rq)(O:Option Addr)(cO:Nat)(os:List UInt8)(w:World)(hp:Xas w Aq cq Ac cc p)(hr:SlAt rqE w R rs)(ho:SlAt u8E w O os)(hol:os.length≤maxLen) :
  Calls Tryz.prog 6 #[.agg (plA Aq cq Ac cc p),.slice R rs.length cR,.slice O os.length cO] w fun e w' => e = .returned (.bool true)∧Below w.heap.size w w':=by
 obtain ⟨W,n0,hW,hn,HSZ,HB,HK0⟩:=box1 w 25 (plA Aq cq Ac cc p);have HP:Hid (∀w',Below n0 w w' → Xas w' Aq cq Ac cc p):=fun w' hb=>hp.below (by rw[hn]; exact hb)
 have HRS:Hid (∀w',Below n0 w w' → SlAt rqE w' R rs):=fun w' hb=>hr.below (by rw[hn]; exact hb)
 have HOS:Hid (∀w',Below n0 w w' → SlAt u8E w' O os):=fun w' hb=>ho.below (by rw[hn]; exact hb)
 have HOM:Hid (os.length≤maxLen):=hol;have HG:=Lib.hid (Xf1 Aq cq Ac cc p R rs.length cR W);have a0:=HK0.out.c2;clear hp hr ho hol;go_enter Tryz.func6,Tryz.ntmps6;go_wp2_with fail;clear a0 hW;refine HG.out.mono ?_;rintro e w1 ⟨b,rfl,hb5,hb1⟩;have HM0:=Lib.hid (HK0.out.below hb1 HK0.out.lt);have HB1:Hid (Below n0 w w1):=HB.out.trans (hb1.mono (by have:=HSZ.out; omega))
 have HN1:Hid (n0<w1.heap.size):=HM0.out.lt;clear hb1 HK0 HB HG;cases b with
 | true =>
   clear hb5;go_wp2_with fail;refine (Xb8 w1).mono ?_;rintro e w2 ⟨rfl,hb2⟩;have HB2:Hid (Below n0 w w2):=HB1.out.trans (hb2.mono (by have:=HN1.out; omega))
   clear hb2;go_wp2;go_ret;exact ⟨rfl,by rw[hn]; exact HB2.out⟩
 | false =>
   have HLEN:Hid (rs.length≤5):=hb5 rfl;have HNW:=Lib.hid (Xg1 Aq cq Ac cc p w1 (HP.out _ HB1.out));have a0:=HM0.out.c2;clear hb5;go_wp2_with fail;clear a0;refine HNW.out.mono ?_;rintro e w2 ⟨hb2,hpost⟩;have HB2:Hid (Below n0 w w2):=HB1.out.trans (hb2.mono (by have:=HN1.out; omega))
   have HN2:Hid (n0<w2.heap.size):=by have:=hb2.size; have:=HN1.out; show _<_; omega
   clear hb2 HNW HB1 HN1 HM0;rcases hpost with ⟨hpok,rfl⟩ | ⟨x,hx,rfl⟩
   ·have HPOK:=Lib.hid hpok;clear hpok;obtain ⟨W3,g3,hW3,hg3,HSZ3,HA3,HK3⟩:=box1 w2 53 (lgA Aq cq Ac cc p none 0 0);have HW3:=Lib.hid hW3;have HB3:Hid (Below n0 w W3):=HB2.out.trans (HA3.out.mono (by have:=HN2.out; omega))
    have HG3:Hid (n0≤g3):=by have:=HN2.out; show _≤_; omega
    have HLG3:Hid (LgAt W3 Aq cq Ac cc p none 0 []):=⟨HP.out _ HB3.out,Xf2.nil _ _,Nat.le_refl _,by simp,by simp⟩
    clear hW3 HB2 HN2 HA3;go_wp2;rw[HW3.out];clear hg3 HW3;obtain ⟨i0,hi0,hz0,hz1,hz2⟩:=info_parts Xqh;have HI:=Lib.hid (And.intro hi0 (And.intro hz0 (And.intro hz1 hz2)));clear hi0 hz0 hz1 hz2;go_loopw [9,11,12,13,14,37] (fun v9 _ _ _ _ i wr => ∃(n:Nat) (ts:List Tk) (A:Option Addr) (ct:Nat) (V:Option Addr) (cV:Nat),n≤rs.length∧i = .int .i64 n∧ts.length≤n∧LgOK p ts∧Zs p ts∧Below n0 w wr∧Bk wr g3 53 (lgA Aq cq Ac cc p A ts.length ct)∧LgAt wr Aq cq Ac cc p A ct ts∧v9 = .slice V ts.length cV∧wr.ownsRow n0 3 1 (.slice V ts.length cV) ts.length ((ts.map (·.num)).flatMap intE.f)) (fun _ _ _ _ _ i _=>rs.length - (intOf i).toNat)
    case atStart=>exact ⟨0, [],none,0,none,0,Nat.zero_le _,rfl,Nat.zero_le _,Xng HPOK.out,fun k hk=>by simp at hk,HB3.out,HK3.out,HLG3.out,rfl,World.ownsRow_nil _ _ _ _⟩
    case round =>
     obtain ⟨n,ts,A,ct,V,cV,hle,rfl,htn,hok,hz,hb,hk,hl,rfl,hrw⟩:=hrel;have HTN:Hid (ts.length≤n):=htn;have HOK:=Lib.hid hok;have HZ:=Lib.hid hz;have HBR:=Lib.hid hb;have HKR:=Lib.hid hk;have HLR:=Lib.hid hl;have HRW:=Lib.hid hrw;clear htn hok hz hb hk hl hrw HB3 HK3 HLG3
     by_cases hlt:n<rs.length
     ·obtain ⟨bR,oR,rfl,hrow⟩:=(HRS.out wr HBR.out).one (by omega)
      obtain ⟨r,hr⟩:∃r,rs[n]? = some r:=⟨_,List.getElem?_eq_getElem hlt⟩;obtain ⟨v0,v1,v2,v3,v4,v5,v6⟩:=rgRq (hrow n r hr);have hn0:(0:Int)≤(n:Int):=by omega
      have hn1:(n:Int)<(rs.length:Int):=by omega
      obtain ⟨W4,g4,hW4,hg4,HSZ4,HA4,HK4⟩:=box1 wr 31 (rqA r);have hb4:Below wr.heap.size wr W4:=by rw[hg4]; exact HA4.out
      have HS0:Hid (n0≤wr.heap.size):=by have:=HKR.out.lt; have:=HG3.out; show _≤_; omega
      have HB4:Hid (Below n0 w W4):=HBR.out.trans (hb4.mono HS0.out);have HG4:=Lib.hid (HKR.out.below hb4 HKR.out.lt);have HL4:=Lib.hid (HLR.out.below hb4);have HRW4:=Lib.hid (Xa6 HRW.out hb4);have HS4:Hid (n0≤W4.heap.size):=by have:=HG4.out.lt; have:=HG3.out; show _≤_; omega
      have HAC:=Lib.hid (Xen Aq cq Ac cc p A ct ts r 0 W4 HL4.out);have a0:=HG4.out.c4;have b0:=HK4.out.c7;clear hrow hr hb4 HBR HKR HLR HRW HA4;go_wp2_with fail;clear a0 b0 v0 v1 v2 v3 v4 v5 v6 hW4 hg4;refine HAC.out.mono ?_;rintro e w7 ⟨hb7,hpost⟩;rcases hpost with ⟨x,hx,-,rfl⟩ | ⟨o,A',c',Am,cm,Ad,cd,Ab,nb,cb2,⟨-,hrq,-,htl,hnx⟩,hacc,hlg,hfs,rfl⟩
      ·obtain ⟨W8,g8,hW8,hg8,HSZ8,HA8,HK8,HK9⟩:=box2 w7 53 #[.slice none 0 0,.slice none 0 0,.slice none 0 0,.slice none 0 0] 59 #[.bool false,.int .i64 0,.slice none 0 0,.slice none 0 0,.slice none 0 0];have HW8:=Lib.hid hW8;have hb8:Below W4.heap.size W4 W8:=Xa hb7 (by rw[hg8]; exact HA8.out)
       have HG8:=Lib.hid (HG4.out.below hb8 HG4.out.lt);have HL8:=Lib.hid (HL4.out.below hb8);have HRW8:=Lib.hid (Xa6 HRW4.out hb8);have HB8:Hid (Below n0 w W8):=HB4.out.trans (hb8.mono HS4.out);have d0:(x == 0)=false:=by simpa using hx
       have d1:(x != 0)=true:=by simpa using hx
       clear hb7 hb8 hW8 hx HG4 HK4 HB4 HL4 HRW4 HAC HA8;have hl5:=HLEN.out;go_wp2;rw[HW8.out];clear hg8 HW8;go_roundw
       case rel=>exact ⟨n+1,ts,A,ct,V,cV,by omega,by go_num,by have:=HTN.out; omega,HOK.out,HZ.out,HB8.out,HG8.out,HL8.out,rfl,HRW8.out⟩
       case measure=>simp[intOf]; omega
      ·have HV:Hid (LgOK p o.ts∧Zs p o.ts):=Xly hacc HOK.out HZ.out hrq htl hnx;have HNU:=Lib.hid (Xsi hacc HOK.out.2.2.1);obtain ⟨W8,g8,hW8,hg8,HSZ8,HA8,HK8,HK9⟩:=box2 w7 53 (lgA Aq cq Ac cc p A' o.ts.length c') 59 #[.bool o.acc,.int .i64 o.num,.slice Am o.mv.length cm,.slice Ad o.dr.length cd,.slice Ab nb cb2];have hal8:Below w7.heap.size w7 W8:=by rw[hg8]; exact HA8.out
       have hb8:Below W4.heap.size W4 W8:=Xa hb7 hal8;have HG8:=Lib.hid (HG4.out.below hb8 HG4.out.lt);have HL8:Hid (LgAt W8 Aq cq Ac cc p A' c' o.ts):=hlg.below hal8;have HL8o:=Lib.hid (HL4.out.below hb8);have HRW8:=Lib.hid (Xa6 HRW4.out hb8);have HRW4o:=Lib.hid HRW4.out;have HB8:Hid (Below n0 w W8):=HB4.out.trans (hb8.mono HS4.out);have HS8:Hid (n0≤W8.heap.size∧g3<g8):=by have:=hb8.size; have:=HS4.out; have:=HG4.out.lt; have:=hb7.size; show _∧_; omega
       clear hb7 hal8 hb8 hlg hacc hrq htl hnx HG4 HK4 HB4 HL4 HRW4 HAC HA8;rcases HNU.out with ⟨ha,hts⟩ | ⟨ha,hnu⟩
       ·obtain ⟨u0,u1,u2,u3,u4⟩:=HK9.out.c5;rw[ha] at u0;clear ha hts;have hl5:=HLEN.out;go_wp2;go_roundw
        case rel=>exact ⟨n+1,ts,A,ct,V,cV,by omega,by go_num,by have:=HTN.out; omega,HOK.out,HZ.out,HB8.out,HG8.out,HL8o.out,rfl,HRW8.out⟩
        case measure=>simp[intOf]; omega
       ·have HFS:Hid (∀a,A' = some a→W4.heap.size≤a.block):=by
         rcases hfs with ⟨_,h⟩ | ⟨h,_⟩
         ·exact h
         ·rw[ha] at h; cases h
        have hol:o.ts.length=ts.length+1:=by
         have:=congrArg List.length hnu;simpa using this
        obtain ⟨X,hX,hx,hg⟩:=HG8.out.p4 (.slice Aq p.q.length cq) (.slice Ac p.c.length cc) (.slice none 0 0) (.slice A' o.ts.length c');have HRX:Hid (X.ownsRow n0 3 1 (.slice V ts.length cV) ts.length ((ts.map (·.num)).flatMap intE.f)):=Xde HRW8.out (Fr.grown hg) (fun r e e2=>by
         obtain ⟨cs,hb⟩:=Xbn HRW8.out e;exact Xeq HG8.out hb (by decide) (Option.some.inj e2))
        have HBX:Hid (Below n0 w X):=below_grown HB8.out hg HG3.out HS8.out.1;have HLX:Hid (LgAt X Aq cq Ac cc p A' c' o.ts):=HL8.out.store (HP.out _ HBX.out) HG8.out (Fr.grown hg);have HXX:=Lib.hid hx;have HK9X:=Lib.hid (HK9.out.grown hg (by have:=HS8.out; simp; omega))
        have HSX:Hid (n0≤X.heap.size):=by have:=hg.size; have:=HS8.out; show _≤_; omega
        have HOL:Hid (o.ts.length=ts.length+1):=hol;have HNM:Hid (o.ts.map (·.num)=ts.map (·.num) ++ [o.num]):=hnu;have r0:=HG8.out.c4;have f0:=HG8.out.f4;obtain ⟨q0,q1,q2,q3⟩:=HK8.out.c4;obtain ⟨u0,u1,u2,u3,u4⟩:=HK9.out.c5;rw[ha] at u0;have y0:=HK9X.out.c5;have HRN:Hid ((X.alloc (.cells #[.int .i64 o.num] 3)).ownsRow n0 3 1 (.slice V ts.length cV) ts.length ((ts.map (·.num)).flatMap intE.f)):=HRX.out.alloc _;have HBA:Hid (Below n0 w (X.alloc (.cells #[.int .i64 o.num] 3))):=HBX.out.alloc HSX.out _;obtain ⟨hi0,hz0,hz1,hz2⟩:=HI.out;have HTL:Hid (ts.length≤5):=by have:=HTN.out; have:=HLEN.out; show _≤_; omega
        clear hx hg ha hnu hol HG8 HL8 HL8o HRW8 HB8;go_wp2_with (at_builtin; refine wpList_append_own_at _ rfl _ _ 22 rfl n0 3 i0 (.int .i64 0) 1 8 Tryz.underlying22 hi0 hz0 hz1 hz2 rfl (by decide) _ _ _ rfl HRN.out ⟨X.heap.size,0,none⟩ 1 1 [.int .i64 o.num] rfl rfl ?d1 ?d2 ?d3 ?d4 ?d5 ?_)
        case d1=>exact fun j u hu=>by rw[Addr.add_mid,Nat.zero_add]; exact Xcj _ [.int .i64 o.num] _ rfl j u hu
        case d2=>exact fun u hu=>intE.one o.num u hu
        case d3=>have:=HTL.out; unfold maxLen; omega
        case d4=>have:=HTL.out; omega
        case d5=>have:=HSX.out; simp; omega
        intro v' wq hown' hg' _ _;have hgg:=(World.grownBy_alloc X (.cells #[.int .i64 o.num] 3) (Value.slice V ts.length cV).ownBlock).trans hg';have HBQ:Hid (Below n0 w wq):=HBA.out.grown hg' (by have:=HSX.out; simp; omega) (fun j hj=>(HRN.out.lt j hj).1)
        have hne:=Xa1 HXX.out (by decide) HRX.out
        have HXQ:=Lib.hid (HXX.out.grown hgg hne);have HRQ:Hid (wq.ownsRow n0 3 1 v' o.ts.length ((o.ts.map (·.num)).flatMap intE.f)):=by
         show wq.ownsRow _ _ _ _ _ _;rw[HNM.out,HOL.out,List.flatMap_append,show [o.num].flatMap intE.f = [.int .i64 o.num] from rfl];exact hown'
        have HLQ:Hid (LgAt wq Aq cq Ac cc p A' c' o.ts):=HLX.out.rows (HP.out _ HBQ.out) HRX.out (by decide) hgg (fun a e e2=>by have h1:=(HRW4o.out.lt a.block e2).2; have h2:=HFS.out a e; omega)
        obtain ⟨V',cV',ev⟩:=Xa8 HRQ.out;subst ev;clear hown' hg' hgg hne hi0 hz0 hz1 hz2 r0 f0 q0 q1 q2 q3 u0 u1 u2 u3 u4 y0 HRX HBX HLX HXX HRN HBA hX hg8 hW8;have hl5:=HLEN.out;go_wp2;go_roundw
        case rel=>exact ⟨n+1,o.ts,A',c',V',cV',by omega,by go_num,by have:=HOL.out; have:=HTN.out; omega,HV.out.1,HV.out.2,HBQ.out,HXQ.out,HLQ.out,rfl,HRQ.out⟩
        case measure=>simp[intOf]; omega
     ·have hn1:decide ((n:Int)<(rs.length:Int))=false:=by simpa using hlt
      have hci:=CI.start HOK.out HZ.out;obtain ⟨V',cV',e0,hsV,hcV, -⟩:=Xab (E:=intE) (L:=ts.map (·.num)) (by rw[List.length_map]; exact HRW.out)
      obtain ⟨rfl,rfl⟩:V=V' ∧ cV=cV':=by rw[List.length_map] at e0; cases e0; exact ⟨rfl,rfl⟩
      rw[List.length_map] at hcV;have HTL:Hid (ts.length≤5):=by have:=HTN.out; have:=HLEN.out; show _≤_; omega
      have HSV:=Lib.hid hsV;have HCV:=Lib.hid hcV;have HCI:=Lib.hid hci;clear e0 hsV hcV hci HRW;go_wp2;go_loopw [9,15,16,17,18,19,20,64] (fun v9 _ _ _ _ _ _ i wr => ∃(n2:Nat) (us:List Tk) (A:Option Addr) (ct:Nat) (L:List Int) (V:Option Addr) (cV:Nat),n2+L.length=ts.length∧i = .int .i64 n2∧CI p us L∧Below n0 w wr∧Bk wr g3 53 (lgA Aq cq Ac cc p A us.length ct)∧LgAt wr Aq cq Ac cc p A ct us∧v9 = .slice V L.length cV∧SlAt intE wr V L∧L.length≤cV) (fun _ _ _ _ _ _ _ i _=>ts.length - (intOf i).toNat)
      case atStart=>exact ⟨0,ts,A,ct,ts.map (·.num),V,cV,by simp,rfl,HCI.out,HBR.out,HKR.out,HLR.out,by rw[List.length_map],HSV.out,by rw[List.length_map]; exact HCV.out⟩
      case round =>
       obtain ⟨n2,us,A,ct,L,V,cV,hnl,rfl,hci,hb,hk,hl,rfl,hsl,hlc⟩:=hrel;have HNL:Hid (n2+L.length=ts.length):=hnl;have HCI2:=Lib.hid hci;have HBQ:=Lib.hid hb;have HKQ:=Lib.hid hk;have HLQ:=Lib.hid hl;have HSL:=Lib.hid hsl;have HLC:Hid (L.length≤cV):=hlc;clear hci hb hk hl hsl hlc HSV HCV HCI HBR HKR HLR
       by_cases hlt2:n2<ts.length
       ·have hm0:(0:Int)≤(n2:Int):=by omega
        have hm1:(n2:Int)<(ts.length:Int):=by omega
        have hLp:0<L.length:=by omega
        have HLP:Hid (0<L.length∧L.length≤5):=by have:=HTL.out; show _∧_; omega
        go_upto_if 70 with fail
        go_cut [16] from 71 to 124 (fun s16 wc=>Below wr.heap.size wr wc ∧ ∃kk:Nat,kk<L.length∧s16 = .int .i64 kk)
        case first =>
         by_cases hlo:n2<os.length
         ·obtain ⟨bO,oO,rfl,hrow⟩:=(HOS.out wr HBQ.out).one (by omega)
          obtain ⟨bt,hbt⟩:∃b,os[n2]? = some b:=⟨_,List.getElem?_eq_getElem hlo⟩;have v0:wr.cell? ⟨bO,oO+n2,none⟩=some (.int .u8 (bt.toNat:Int)):=by
           have h:=hrow n2 bt hbt 0 _ rfl;simpa[u8E] using h
          have hbl:(bt.toNat:Int)<256:=by have:=bt.toNat_lt; omega
          have hb0:(0:Int)≤(bt.toNat:Int):=by omega
          have d0:decide ((n2:Int)<(os.length:Int))=true:=by simpa using hlo
          have hm2:(n2:Int)<(os.length:Int):=by omega
          have hLz:¬ ((L.length:Int)=0):=by omega
          have hLz2:((L.length:Int) == 0)=false:=by simpa using hLz
          have hw:=IntKind.i64.wrap (bt.toNat:Int);clear hrow hbt;go_wp2;go_meet
          case rel=>exact ⟨Below.refl _ _,bt.toNat % L.length,Nat.mod_lt _ HLP.out.1,by simp⟩
         ·have d0:decide ((n2:Int)<(os.length:Int))=false:=by simpa using hlo
          go_wp2;go_meet
          case rel=>exact ⟨Below.refl _ _,0,HLP.out.1,rfl⟩
        case rest =>
         obtain ⟨wx,hwx⟩:∃v,v=wc:=⟨_,rfl⟩;subst hwx;obtain ⟨hbx,kk,hkk,rfl⟩:=hcut;have HBX:Hid (Below n0 w wx):=HBQ.out.trans (hbx.mono (by have:=HKQ.out.lt; have:=HG3.out; omega))
         have HKX:=Lib.hid (HKQ.out.below hbx HKQ.out.lt);have HLX:=Lib.hid (HLQ.out.below hbx);have HSX:=Lib.hid (HSL.out.below hbx);have HKK:Hid (kk<L.length):=hkk;clear hbx HBQ HKQ HLQ HSL;obtain ⟨bV,oV,rfl,hrowV⟩:=HSX.out.one (by omega)
         obtain ⟨nn,hnn⟩:∃n,L[kk]? = some n:=⟨_,List.getElem?_eq_getElem hkk⟩;have hcel:wx.cell? ⟨bV,oV+kk,none⟩=some (.int .i64 nn):=by
          have h:=hrowV kk nn hnn 0 _ rfl;simpa[intE] using h
         obtain ⟨k,hfk⟩:=HCI2.out.fd nn (List.mem_of_getElem? hnn);have HNN:=Lib.hid hnn;have HFK:=Lib.hid hfk;have hk0:(0:Int)≤(kk:Int):=by omega
         have hk1:(kk:Int)<(L.length:Int):=by omega
         have hk5:(kk:Int)≤5:=by have:=HLP.out; omega
         have HSF:Hid (∀w',Below wx.heap.size wx w' → w'.cell? ⟨g3,0,none⟩=some (.slice Aq p.q.length cq)∧w'.cell? ⟨g3,1,none⟩=some (.slice Ac p.c.length cc)∧w'.cell? ⟨g3,2,none⟩=some (.slice none 0 0)∧w'.cell? ⟨g3,3,none⟩=some (.slice A us.length ct)∧w'.cell? ⟨bV,oV+kk,none⟩=some (.int .i64 nn)):=fun w' hb=>by
          have h:=HKX.out.below hb HKX.out.lt;exact ⟨h.cell 0,h.cell 1,h.cell 2,h.cell 3,(hb.cell (p:=⟨bV,oV+kk,none⟩) (World.block_lt_of_cell? _ _ hcel)).trans hcel⟩
         have HFD:Hid (∀w',Below wx.heap.size wx w' → Calls Tryz.prog 21 #[.agg (lgA Aq cq Ac cc p A us.length ct),.int .i64 nn] w' (Xnx us nn w')):=fun w' hb=>Xfr Aq cq Ac cc p A ct us nn w' (HLX.out.below hb).t (by have:=HLX.out.tm; omega)
         clear hrowV hnn hfk hcel;go_upto_region 21 with fail
         go_cut [17,18] from 79 to 124 (fun s17 s18 wd=>s18 = .bool true ∧ ∃g2 Ak ck,s17 = .pointer (some ⟨g2,0,none⟩)∧wx.heap.size≤g2∧Bk wd g2 55 (tkA k Ak ck)∧HpAt wd Ak ck k.hops∧Below wx.heap.size wx wd)
         case first =>
          refine Xam (S:=fun w' => w'.cell? ⟨g3,0,none⟩=some (.slice Aq p.q.length cq)∧w'.cell? ⟨g3,1,none⟩=some (.slice Ac p.c.length cc)∧w'.cell? ⟨g3,2,none⟩=some (.slice none 0 0)∧w'.cell? ⟨g3,3,none⟩=some (.slice A us.length ct)∧w'.cell? ⟨bV,oV+kk,none⟩=some (.int .i64 nn)) [] (by kernel_rfl) (HSF.out _ (Below.refl _ _).drew) (fun hHeld=>?_)
          have HBV:Hid (Below wx.heap.size wx wx.drew):=(Below.refl _ _).drew;generalize wx.drew=U at HBV hHeld ⊢;refine tkG 0 (.agg (lgA Aq cq Ac cc p A us.length ct)) ?_;refine tkF 1 _ ?_;refine tkF 2 _ ?_;refine tkF 3 _ ?_;refine tkG 4 (.int .i64 nn) ?_;refine Xe1 (i:=5) (j:=9) rfl rfl (by kernel_rfl) (by rfl) (by rfl) (fun K hK=>?_) (fun K hK=>?_)
          ·go_simp;refine (HFD.out U HBV.out).mono ?_;rintro e w1 ⟨hb1,hpost⟩;rw[HFK.out] at hpost;obtain ⟨Ak,ck,rfl,hhp⟩:=hpost;have HB1:Hid (Below wx.heap.size wx w1):=Xa HBV.out hb1;refine hK _ _ (HSF.out _ HB1.out) ?_;clear hK K hHeld hb1;have hHeld:(fun w' => w'.cell? ⟨g3,0,none⟩=some (.slice Aq p.q.length cq)∧w'.cell? ⟨g3,1,none⟩=some (.slice Ac p.c.length cc)∧w'.cell? ⟨g3,2,none⟩=some (.slice none 0 0)∧w'.cell? ⟨g3,3,none⟩=some (.slice A us.length ct)∧w'.cell? ⟨bV,oV+kk,none⟩=some (.int .i64 nn)) w1:=HSF.out _ HB1.out
           try simp only[PU]
           refine tkF 6 _ ?_;refine tkF 7 _ ?_;refine tkF 8 _ ?_;clear hHeld;obtain ⟨w2,g2,hw2,hg2,HSZx,HA2,HK2⟩:=box1 w1 55 #[.int .i64 0,.int .i64 0,.int .i64 0,.int .i64 0,.int .i64 0,.int .i64 0,.int .i64 0,.bool false,.slice none 0 0,.int .i64 0,.int .i64 0];have hal:Below w1.heap.size w1 w2:=by rw[hg2]; exact HA2.out
           have HB2:Hid (Below wx.heap.size wx w2):=Xa HB1.out hal;have HH2:Hid (HpAt w2 Ak ck k.hops):=hhp.below hal;have HSZ2:Hid (wx.heap.size≤g2):=by have:=HB1.out.size; show _≤_; omega
           refine Xaa (i:=9) rfl (by kernel_rfl) (by rfl) (fun K hK=>?_)
           go_simp;refine hK _ _ (HSF.out _ HB2.out) ?_;clear hK K hal hw2 hg2
           try simp only[PU]
           have hHeld:(fun w' => w'.cell? ⟨g3,0,none⟩=some (.slice Aq p.q.length cq)∧w'.cell? ⟨g3,1,none⟩=some (.slice Ac p.c.length cc)∧w'.cell? ⟨g3,2,none⟩=some (.slice none 0 0)∧w'.cell? ⟨g3,3,none⟩=some (.slice A us.length ct)∧w'.cell? ⟨bV,oV+kk,none⟩=some (.int .i64 nn)) w2:=HSF.out _ HB2.out;obtain ⟨X,hX,hx,hg⟩:=HK2.out.p11 (.int .i64 k.num) (.int .i64 k.rq.src) (.int .i64 k.rq.dst) (.int .i64 k.rq.size) (.int .i64 k.rq.ready) (.int .i64 k.rq.dead) (.int .i64 k.rq.prio) (.bool k.rq.cust) (.slice Ak k.hops.length ck) (.int .i64 k.st) (.int .i64 k.til);have r0:=HK2.out.c11;have f0:=HK2.out.f11;have hkp:HpAt X Ak ck k.hops:=Xep HH2.out (Fr.grown hg) (fun j cs mk hj e=>Xdx HK2.out (by decide) hj (Option.some.inj e).symm)
           have hbx:Below wx.heap.size wx X:=below_grown HB2.out hg HSZ2.out (by have:=HK2.out.lt; have:=HSZ2.out; omega)
           refine Xaa (i:=10) rfl (by kernel_rfl) (by rfl) (fun K hK=>?_)
           go_simp;refine hK _ _ (HSF.out _ hbx) ?_;clear hK K hHeld r0 f0
           try simp only[PU]
           have hHeld:(fun w' => w'.cell? ⟨g3,0,none⟩=some (.slice Aq p.q.length cq)∧w'.cell? ⟨g3,1,none⟩=some (.slice Ac p.c.length cc)∧w'.cell? ⟨g3,2,none⟩=some (.slice none 0 0)∧w'.cell? ⟨g3,3,none⟩=some (.slice A us.length ct)∧w'.cell? ⟨bV,oV+kk,none⟩=some (.int .i64 nn)) X:=HSF.out _ hbx;refine tkF 11 _ ?_;clear hHeld;refine Xbd (by kernel_rfl) ?_
           go_wp2;go_meet
           case rel=>exact ⟨rfl,g2,Ak,ck,rfl,HSZ2.out,hx,hkp,hbx⟩
          ·obtain ⟨w1,g2,hw1,hg2,HSZx,HA2,HK1⟩:=box1 U 55 #[.int .i64 0,.int .i64 0,.int .i64 0,.int .i64 0,.int .i64 0,.int .i64 0,.int .i64 0,.bool false,.slice none 0 0,.int .i64 0,.int .i64 0];have hal:Below U.heap.size U w1:=by rw[hg2]; exact HA2.out
           have HB1:Hid (Below wx.heap.size wx w1):=Xa HBV.out hal;have HSZ2:Hid (wx.heap.size≤g2):=by have:=HBV.out.size; show _≤_; omega
           go_simp;refine hK _ _ (HSF.out _ HB1.out) ?_;clear hK K hHeld hal hw1 hg2
           try simp only[PU]
           have hHeld:(fun w' => w'.cell? ⟨g3,0,none⟩=some (.slice Aq p.q.length cq)∧w'.cell? ⟨g3,1,none⟩=some (.slice Ac p.c.length cc)∧w'.cell? ⟨g3,2,none⟩=some (.slice none 0 0)∧w'.cell? ⟨g3,3,none⟩=some (.slice A us.length ct)∧w'.cell? ⟨bV,oV+kk,none⟩=some (.int .i64 nn)) w1:=HSF.out _ HB1.out;refine Xaa (i:=5) rfl (by kernel_rfl) (by rfl) (fun K hK=>?_)
           go_simp;refine (HFD.out w1 HB1.out).mono ?_;rintro e w2 ⟨hb2,hpost⟩;rw[HFK.out] at hpost;obtain ⟨Ak,ck,rfl,hhp⟩:=hpost;have HB2:Hid (Below wx.heap.size wx w2):=Xa HB1.out hb2;have HK2:=Lib.hid (HK1.out.below hb2 HK1.out.lt);have HH2:=Lib.hid hhp;refine hK _ _ (HSF.out _ HB2.out) ?_;clear hK K hHeld hb2
           try simp only[PU]
           have hHeld:(fun w' => w'.cell? ⟨g3,0,none⟩=some (.slice Aq p.q.length cq)∧w'.cell? ⟨g3,1,none⟩=some (.slice Ac p.c.length cc)∧w'.cell? ⟨g3,2,none⟩=some (.slice none 0 0)∧w'.cell? ⟨g3,3,none⟩=some (.slice A us.length ct)∧w'.cell? ⟨bV,oV+kk,none⟩=some (.int .i64 nn)) w2:=HSF.out _ HB2.out;refine tkF 6 _ ?_;refine tkF 7 _ ?_;refine tkF 8 _ ?_;obtain ⟨X,hX,hx,hg⟩:=HK2.out.p11 (.int .i64 k.num) (.int .i64 k.rq.src) (.int .i64 k.rq.dst) (.int .i64 k.rq.size) (.int .i64 k.rq.ready) (.int .i64 k.rq.dead) (.int .i64 k.rq.prio) (.bool k.rq.cust) (.slice Ak k.hops.length ck) (.int .i64 k.st) (.int .i64 k.til);have r0:=HK2.out.c11;have f0:=HK2.out.f11;have hkp:HpAt X Ak ck k.hops:=Xep HH2.out (Fr.grown hg) (fun j cs mk hj e=>Xdx HK2.out (by decide) hj (Option.some.inj e).symm)
           have hbx:Below wx.heap.size wx X:=below_grown HB2.out hg HSZ2.out (by have:=HK2.out.lt; have:=HSZ2.out; omega)
           refine Xaa (i:=10) rfl (by kernel_rfl) (by rfl) (fun K hK=>?_)
           go_simp;refine hK _ _ (HSF.out _ hbx) ?_;clear hK K hHeld r0 f0
           try simp only[PU]
           have hHeld:(fun w' => w'.cell? ⟨g3,0,none⟩=some (.slice Aq p.q.length cq)∧w'.cell? ⟨g3,1,none⟩=some (.slice Ac p.c.length cc)∧w'.cell? ⟨g3,2,none⟩=some (.slice none 0 0)∧w'.cell? ⟨g3,3,none⟩=some (.slice A us.length ct)∧w'.cell? ⟨bV,oV+kk,none⟩=some (.int .i64 nn)) X:=HSF.out _ hbx;refine tkF 11 _ ?_;clear hHeld;refine Xbd (by kernel_rfl) ?_
           go_wp2;go_meet
           case rel=>exact ⟨rfl,g2,Ak,ck,rfl,HSZ2.out,hx,hkp,hbx⟩
         case rest =>
          obtain ⟨wy,hwy⟩:∃v,v=wc:=⟨_,rfl⟩;subst hwy;obtain ⟨rfl,g2,Ak,ck,rfl,hg2,hk2,hh2,hb2⟩:=hcut;have HBY:Hid (Below n0 w wy):=HBX.out.trans (hb2.mono (by have:=HKX.out.lt; have:=HG3.out; omega))
          have HKY:=Lib.hid (HKX.out.below hb2 HKX.out.lt);have HLY:=Lib.hid (HLX.out.below hb2);have HSY:=Lib.hid (HSX.out.below hb2);have HK2:=Lib.hid hk2;have HH2:=Lib.hid hh2;clear hg2 hk2 hh2 hb2 HBX HKX HLX HSX HSF HFD;obtain ⟨hi0,hz0,hz1,hz2⟩:=HI.out;go_upto_region 24 with fail
          have hc1:¬ cV<kk:=by have:=HLC.out; have:=HKK.out; omega
          have hw1:IntKind.i64.wrap ((kk:Int)+1)=(kk:Int)+1:=IntWalk.i64_in _ (by omega)
          have hw2:(0:Int)≤(kk:Int)+1:=by omega
          have hw3:(kk:Int)+1≤(L.length:Int):=by omega
          refine Xam (S:=fun _=>True) [] (by kernel_rfl) trivial (fun hHeld=>?_)
          have hbd:Below wy.heap.size wy wy.drew:=(Below.refl _ _).drew;generalize wy.drew=U at hbd hHeld ⊢;refine tkF 1 _ ?_;refine tkF 2 _ ?_;refine tkF 3 (.slice (some ⟨bV,oV,none⟩) kk cV) ?_;refine tkF 5 _ ?_;refine tkF 6 _ ?_;refine tkF 7 (.int .i64 ((kk:Int)+1)) ?_;refine tkF 8 (.slice (if cV=kk+1 then some ⟨bV,oV,none⟩ else some ⟨bV,oV+(kk+1),none⟩) (L.length - (kk+1)) (cV - (kk+1))) ?_
          have hbk:bV<wy.heap.size:=by
           have h1:=HSY.out kk nn HNN.out;obtain ⟨b',o',e,h2⟩:=h1;have h3:=World.block_lt_of_cell? _ _ (h2 0 _ rfl);cases e;exact h3
          obtain ⟨U1,gE,hU1,hgE,HSZE,HAE,HKE⟩:=box1 U 3 #[];have hb1:Below wy.heap.size wy U1:=Xa hbd (by rw[hgE]; exact HAE.out)
          have hgw:wy.heap.size≤gE:=by have:=hbd.size; omega
          have row0:U1.ownsRow wy.heap.size 3 intE.k (.slice (some ⟨gE,0,none⟩) 0 0) 0 []:=⟨by simp,.inr ⟨gE,0, #[],rfl,hgw,HKE.out,Nat.le_refl _,Nat.zero_le _,by simp,by simp⟩⟩
          have hsu:SlAt intE U1 (some ⟨bV,oV,none⟩) L:=HSY.out.below hb1;have hlt1:(L.take kk).length=kk:=by rw[List.length_take]; omega
          have hld1:(L.drop (kk+1)).length=L.length - (kk+1):=List.length_drop;have hL5:=HLP.out;refine Xaa (i:=0) rfl (by kernel_rfl) (by rfl) (fun K hK=>?_)
          go_simp;refine hK _ _ trivial ?_;clear hK K hU1 hgE
          try simp only[PU]
          refine Xaa (i:=4) rfl (by kernel_rfl) (by rfl) (fun K hK=>?_)
          refine Xaq intE (.tmp 90) (.tmp 93) 22 3 rfl wy.heap.size i0 (.int .i64 0) 8 Tryz.underlying22 hi0 hz0 hz1 hz2 rfl (by decide) (.slice (some ⟨gE,0,none⟩) 0 0) 0 [] rfl row0 (some ⟨bV,oV,none⟩) (L.take kk) cV (by rw[hlt1]; rfl) (hsu.take kk) (by rw[hlt1]; unfold maxLen; omega) (by rw[hlt1]; omega) hb1.size (fun v1 w1 h1 h2 h3=>?_)
          refine hK _ _ trivial ?_;clear hK K
          try simp only[PU]
          have hb2:Below wy.heap.size wy w1:=hb1.grown h2 hb1.size (fun r e=>by cases e; exact hgw)
          have hsd:SlAt intE w1 (if cV=kk+1 then some ⟨bV,oV,none⟩ else some ⟨bV,oV+(kk+1),none⟩) (L.drop (kk+1)):=by
           have hs1:SlAt intE w1 (some ⟨bV,oV,none⟩) L:=HSY.out.below hb2
           split
           ·rename_i hc
            have:L.drop (kk+1) = []:=List.drop_eq_nil_of_le (by have:=HLC.out; omega)
            rw[this];exact SlAt.nil _ _
           ·intro j r hj;rw[List.getElem?_drop] at hj;obtain ⟨b',o',e,hr⟩:=hs1 (kk+1+j) r hj;cases e;exact ⟨_,_,rfl,by rw[show oV+(kk+1)+j * intE.k=oV+(kk+1+j) * intE.k by show oV+(kk+1)+j * 1=oV+(kk+1+j) * 1; omega]; exact hr⟩
          refine Xaa (i:=9) rfl (by kernel_rfl) (by rfl) (fun K hK=>?_)
          refine Xaq intE (.tmp 94) (.tmp 98) 22 3 rfl wy.heap.size i0 (.int .i64 0) 8 Tryz.underlying22 hi0 hz0 hz1 hz2 rfl (by decide) v1 (0+(L.take kk).length) ([] ++ (L.take kk).flatMap intE.f) rfl h1 (if cV=kk+1 then some ⟨bV,oV,none⟩ else some ⟨bV,oV+(kk+1),none⟩) (L.drop (kk+1)) (cV - (kk+1)) (by rw[hld1]; rfl) hsd (by rw[hlt1,hld1]; unfold maxLen; omega) (by rw[hlt1,hld1]; omega) hb2.size (fun v2 w3 h4 h5 h6=>?_)
          refine hK _ _ trivial ?_;clear hK K hHeld
          try simp only[PU]
          have hb3:Below wy.heap.size wy w3:=hb2.grown h5 hb2.size (fun r e=>(h1.lt r e).1);obtain ⟨L2,hL2⟩:∃M,M=L.take kk ++ L.drop (kk+1):=⟨_,rfl⟩;have hl2:L2.length+1=L.length:=by rw[hL2,List.length_append,hlt1,hld1]; omega
          obtain ⟨V9,c9,rfl,hs9,hc9, -⟩:=Xab (E:=intE) (L:=L2) (w:=w3) (base:=wy.heap.size) (t:=3) (v:=v2) (by
           have e1:0+(L.take kk).length+(L.drop (kk+1)).length=L2.length:=by rw[hL2,List.length_append]; omega
           have e2 : [] ++ (L.take kk).flatMap intE.f ++ (L.drop (kk+1)).flatMap intE.f=L2.flatMap intE.f:=by rw[hL2,List.flatMap_append]; rfl
           rw[e1,e2] at h4;exact h4)
          have HB9:Hid (Below n0 w w3):=HBY.out.trans (hb3.mono (by have:=HKY.out.lt; have:=HG3.out; omega))
          have HK9:=Lib.hid (HKY.out.below hb3 HKY.out.lt);have HL9:=Lib.hid (HLY.out.below hb3);have HT9:=Lib.hid (HK2.out.below hb3 HK2.out.lt);have HH9:=Lib.hid (HH2.out.below hb3);have HS9:=Lib.hid hs9;have HC9:=Lib.hid hc9;have HL2:=Lib.hid hL2;have HLL2:Hid (L2.length+1=L.length):=hl2;clear hbk HSZE HAE HKE hb1 hgw row0 hsu hlt1 hld1 hL5 h1 h2 h3 hb2 hsd h4 h5 h6 hb3 hs9 hc9 hL2 hl2 hw1 hw2 hw3 hc1 hbd HBY HKY HLY HSY HK2 HH2 hi0 hz0 hz1 hz2;have hHeld:(fun (_:World)=>True) w3:=trivial;refine tkF 10 _ ?_;clear hHeld;refine Xbd (by kernel_rfl) ?_
          have HKI:Hid (k ∈ us∧k.num=nn):=Xjy HFK.out;have k0:=HT9.out.c11;have hn5:(n2:Int)≤5:=by have:=HTL.out; omega
          by_cases hst:k.st=2
          ·have d0:(k.st == 2)=true:=by simpa using hst
           have HC:Hid (CI p us L2):=by have h:=HCI2.out.skip HNN.out HFK.out hst; rw[←HL2.out] at h; exact h
           clear hst;go_wp2;go_roundw
           case rel=>exact ⟨n2+1,us,A,ct,L2,V9,c9,by have:=HNL.out; have:=HLL2.out; omega,by go_num,HC.out,HB9.out,HK9.out,HL9.out,rfl,HS9.out,HC9.out⟩
           case measure=>simp[intOf]; omega
          ·have d0:(k.st == 2)=false:=by simpa using hst
           have HST:Hid (k.st=1∧k.hops ≠ []):=by
            rcases (HCI2.out.z k HKI.out.1).kind with ⟨h1,h2,_⟩ | ⟨h1,_⟩
            ·exact ⟨h1,h2.2.1⟩
            ·exact absurd h1 hst
           clear hst;obtain ⟨x,hx0⟩:∃x,k.hops[0]? = some x:=by
            have h:=HST.out.2;cases hh:k.hops with
            | nil=>exact absurd hh h
            | cons x l=>exact ⟨x,rfl⟩
           have hlen0:0<k.hops.length:=(List.getElem?_eq_some_iff.1 hx0).1;have d1:((k.hops.length:Int) == 0)=false:=by rw[beq_eq_false_iff_ne]; omega
           obtain ⟨bh,oh,rfl,hrowh⟩:=HH9.out.s.one hlen0;have hx1:w3.cell? ⟨bh,oh+1,none⟩=some (.int .i64 x.beg):=by
            have h:=hrowh 0 x hx0 1 _ rfl
            rwa [Nat.zero_mul,Nat.add_zero] at h
           have hlen1:(0:Int)<(k.hops.length:Int):=by omega
           have HX0:=Lib.hid hx0;clear hrowh hx0;have HS9z:Hid (n0≤w3.heap.size):=by have:=HK9.out.lt; have:=HG3.out; show _≤_; omega
           by_cases hbg:x.beg≤0
           ·have d2:decide (x.beg≤0)=true:=by simpa using hbg
            go_wp2_with fail
            all_goals
             refine (Xb8 w3).mono ?_;rintro e wz ⟨rfl,hbz⟩;have HBZ:Hid (Below n0 w wz):=HB9.out.trans (hbz.mono HS9z.out);clear hbz;go_wp2;go_ret;exact ⟨rfl,by rw[hn]; exact HBZ.out⟩
           ·have d2:decide (x.beg≤0)=false:=by simpa using hbg
            have hro:=rest_of (p:=p) HST.out.1 HST.out.2 (fun y hy=>by rw[HX0.out] at hy; cases hy; omega)
            have hfk:Xbg us k.num=some k:=by rw[HKI.out.2]; exact HFK.out
            have HC:Hid (CI p (setT us (Xao 0 0 k)) L2):=by have h:=HCI2.out.cancel HNN.out HFK.out hro.1 hro.2; rw[←HL2.out] at h; exact h
            have HCN:=Lib.hid (Xow Aq cq Ac cc p A ct us k.num k w3 HL9.out HCI2.out.ok hfk hro.1);have a0:=HK9.out.c4;clear hro hfk;go_wp2_with fail
            all_goals
             clear a0 k0 hx1;refine HCN.out.mono ?_;rintro e w4 ⟨A',c',rfl,hlg,hb4⟩;obtain ⟨W5,g5,hW5,hg5,HSZ5,HA5,HK5⟩:=box1 w4 53 #[.slice Aq p.q.length cq,.slice Ac p.c.length cc,.slice none 0 0,.slice A' (setT us (Xao 0 0 k)).length c'];have hal:Below w4.heap.size w4 W5:=by rw[hg5]; exact HA5.out
             have hb5:Below w3.heap.size w3 W5:=Xa hb4 hal;have HKG:=Lib.hid (HK9.out.below hb5 HK9.out.lt);have HSG:=Lib.hid (HS9.out.below hb5);have HBG:Hid (Below n0 w W5):=HB9.out.trans (hb5.mono HS9z.out);have HLG:=Lib.hid (hlg.below hal);obtain ⟨X,hX,hx,hg⟩:=HKG.out.p4 (.slice Aq p.q.length cq) (.slice Ac p.c.length cc) (.slice none 0 0) (.slice A' (setT us (Xao 0 0 k)).length c');have HBX2:Hid (Below n0 w X):=below_grown HBG.out hg HG3.out (by have:=HKG.out.lt; have:=HG3.out; omega)
             have HLX2:Hid (LgAt X Aq cq Ac cc p A' c' (setT us (Xao 0 0 k))):=HLG.out.store (HP.out _ HBX2.out) HKG.out (Fr.grown hg);have HSX2:Hid (SlAt intE X V9 L2):=Xok HSG.out HKG.out (Fr.grown hg);have HXX:=Lib.hid hx;have r0:=HKG.out.c4;have f0:=HKG.out.f4;obtain ⟨q0,q1,q2,q3⟩:=HK5.out.c4;clear hb4 hal hb5 hlg hx hg HKG HSG HBG HLG HB9 HK9 HL9 HS9 HA5 HCN;go_wp2;go_roundw
             case rel=>exact ⟨n2+1,_,A',c',L2,V9,c9,by have:=HNL.out; have:=HLL2.out; omega,by go_num,HC.out,HBX2.out,HXX.out,HLX2.out,rfl,HSX2.out,HC9.out⟩
             case measure=>simp[intOf]; omega
       ·have hm1:decide ((n2:Int)<(ts.length:Int))=false:=by simpa using hlt2
        obtain rfl:L = []:=List.eq_nil_of_length_eq_zero (by omega)
        have HCE:=Lib.hid HCI2.out;have HTT:=Lib.hid (Xe4 Aq cq Ac cc p A ct us wr HLQ.out HCI2.out.ok);have HSW:Hid (n0≤wr.heap.size):=by have:=HKQ.out.lt; have:=HG3.out; show _≤_; omega
        have a0:=HKQ.out.c4;go_wp2_with fail;clear a0;refine HTT.out.mono ?_;rintro e w5 ⟨⟨p',b,h⟩,B,cb,H,ch,hR,rfl,hT,hb5⟩;have hpe:p=p':=hR.1.symm;subst hpe;obtain ⟨hb0,hh0⟩:=HCE.out.done hR
        dsimp only at hb0 hh0 ⊢
        subst hb0 hh0;obtain ⟨W6,g6,hW6,hg6,HSZ6,HA6,HK6⟩:=box1 w5 29 #[.slice Aq p.q.length cq,.slice Ac p.c.length cc,.slice B 0 cb,.slice H 0 ch];have HB6:Hid (Below n0 w W6):=HBQ.out.trans ((Xa hb5 (by rw[hg6]; exact HA6.out)).mono HSW.out)
        have HS6:Hid (n0≤W6.heap.size):=by have:=hb5.size; have:=HSW.out; have:=HSZ6.out; show _≤_; omega
        have HW6:=Lib.hid hW6;obtain ⟨q0,q1,q2,q3⟩:=(HK6.out.back HW6.out).c4;clear hW6 hR hT hb5 HBQ HKQ HLQ HTT HA6;go_wp2_with fail;rw[HW6.out];clear q0 q1 q2 q3 hg6 HW6;refine (Xb8 W6).mono ?_;rintro e wz ⟨rfl,hbz⟩;have HBZ:Hid (Below n0 w wz):=HB6.out.trans (hbz.mono HS6.out);clear hbz;go_wp2;go_ret;exact ⟨rfl,by rw[hn]; exact HBZ.out⟩
   ·obtain ⟨W3,g3,hW3,hg3,HSZ3,HA3,HK3⟩:=box1 w2 53 #[.slice none 0 0,.slice none 0 0,.slice none 0 0,.slice none 0 0];have HW3:=Lib.hid hW3;have HB3:Hid (Below n0 w W3):=HB2.out.trans (HA3.out.mono (by have:=HN2.out; omega))
    have HN3:Hid (n0≤W3.heap.size):=by have:=HSZ3.out; have:=HN2.out; show _≤_; omega
    have d0:(x == 0)=false:=by simpa using hx
    clear hW3 HB2 HN2 HA3 hx;go_wp2_with fail;rw[HW3.out];clear hg3 HW3;refine (Xb8 W3).mono ?_;rintro e w5 ⟨rfl,hb5⟩;have HB5:Hid (Below n0 w w5):=HB3.out.trans (hb5.mono HN3.out);clear hb5;go_wp2;go_ret;exact ⟨rfl,by rw[hn]; exact HB5.out⟩
end Go.Proofs.YtebkgbmijocdjaaGreat.Tp
