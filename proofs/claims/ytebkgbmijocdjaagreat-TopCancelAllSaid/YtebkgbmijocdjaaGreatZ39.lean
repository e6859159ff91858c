/- A part of the proof for the ledger. No condition beyond those that each theorem states. -/
import Derived.Test.YtebkgbmijocdjaaGreatZ38
set_option maxHeartbeats 32000000
set_option maxRecDepth 100000
set_option linter.unusedVariables false
set_option linter.unusedSimpArgs false
namespace Go.Proofs.YtebkgbmijocdjaaGreat.Tp
open Go Go.RowKit
theorem Xlg (A:Option Addr)(c:Nat)(l:List Int)(x:Int)(w:World)(hA:SlAt intE w A l)(hl:l.length≤1000000) :
  Calls Tryz.prog 163 #[.slice A l.length c,.int .i64 x] w fun e w' => ∃z:Int,e = .returned (.int .i64 z)∧(0≤z↔x ∈ l)∧Below w.heap.size w w':=by
 have HA:=Lib.hid hA;clear hA;go_enter Tryz.func163,Tryz.ntmps163;go_wp2;go_loopw [5,8] (fun _ i wr => ∃k:Nat,k≤l.length∧i = .int .i64 k∧Below w.heap.size w wr ∧ ∀y ∈ l.take k,y ≠ x) (fun _ i _=>l.length - (intOf i).toNat)
 case atStart=>exact ⟨0,Nat.zero_le _,rfl,Below.refl _ _,by simp⟩
 case round =>
  obtain ⟨k,hk,rfl,hbw,hno⟩:=hrel;have HB:=Lib.hid hbw;have HNO:=Lib.hid hno;clear hbw hno
  by_cases hlt:k<l.length
  ·obtain ⟨b,off,rfl,hr⟩:=(HA.out.below HB.out).one (by omega)
   obtain ⟨r,hrk⟩:∃r,l[k]? = some r:=⟨_,List.getElem?_eq_getElem hlt⟩;have HRK:=Lib.hid hrk;have hc0:wr.cell? ⟨b,off+k,none⟩=some (.int .i64 r):=by
    have:=hr k r hrk 0 _ rfl;simpa[intE] using this
   have hk0:(0:Int)≤(k:Int):=by omega
   have hk1:(k:Int)<(l.length:Int):=by omega
   clear hr hrk
   by_cases he:x=r
   ·have d:(x == r)=true:=by simpa using he
    have HM:Hid (x ∈ l):=by rw[he]; exact List.mem_of_getElem? HRK.out
    clear he;go_wp2;go_ret;exact ⟨_,rfl,⟨fun _=>HM.out,fun _=>by omega⟩,HB.out⟩
   ·have d:(x == r)=false:=by simpa using he
    have HN:Hid (∀y ∈ l.take (k+1),y ≠ x):=fun y hy=>by
     rw[take_snoc HRK.out] at hy;rcases List.mem_append.1 hy with h | h
     ·exact HNO.out y h
     ·rw[List.mem_singleton.1 h]; exact fun e=>he e.symm
    clear he;go_wp2;go_roundw
    case rel=>exact ⟨k+1,by omega,by go_num,HB.out,HN.out⟩
    case measure=>simp[intOf]; omega
  ·have HN:Hid (¬ x ∈ l):=fun h=>HNO.out x (by rw[List.take_of_length_le (by omega)]; exact h) rfl
   go_wp2;go_ret;exact ⟨_,rfl,⟨fun h=>absurd h (by decide),fun h=>absurd h HN.out⟩,HB.out⟩
theorem Xe8 (A:Option Addr)(c:Nat)(l:List Int)(x:Int)(w:World)(hA:SlAt intE w A l)(hl:l.length≤1000000) :
  Calls Tryz.prog 116 #[.slice A l.length c,.int .i64 x] w (Xap (l.contains x=true) w):=by
 have HI:=Lib.hid (Xlg A c l x w hA hl);clear hA;go_enter Tryz.func116,Tryz.ntmps116;go_wp2_with fail;refine HI.out.mono ?_;rintro e w1 ⟨z,rfl,hz,hb⟩;have HB:=Lib.hid hb
 by_cases h0:0≤z
 ·have HM:Hid (l.contains x=true):=by show _=_; simpa using hz.1 h0
  clear hz hb HI;go_wp2;go_ret;exact ⟨true,by simp[h0],⟨fun _=>HM.out,fun _=>rfl⟩,HB.out⟩
 ·have HM:Hid (¬ l.contains x=true):=fun h=>h0 (hz.2 (by simpa using h))
  clear hz hb HI;go_wp2;go_ret;exact ⟨false,by simp[h0]; try omega,⟨fun h=>(by cases h),fun h=>absurd h HM.out⟩,HB.out⟩
theorem Xrd (X Y:Nat)(A:Option Addr)(c:Nat)(vs:List Int)(now:Int)(b:Bkg)(w:World)(hX:w.cell? ⟨X,0,none⟩=some (.slice A vs.length c))(hY:w.cell? ⟨Y,0,none⟩=some (.int .i64 now))(hA:SlAt intE w A vs)(hl:vs.length≤1000000) :
  Calls Tryz.prog 115 #[.agg #[.int .i64 b.ct,.int .i64 b.beg,.int .i64 b.fin,.int .i64 b.tick],.pointer (some ⟨X,0,none⟩),.pointer (some ⟨Y,0,none⟩)] w (Xap ((vs.contains b.tick && decide (now<b.beg))=true) w):=by
 have HB0:Hid (Below w.heap.size w (w.alloc (.cells #[.int .i64 b.ct,.int .i64 b.beg,.int .i64 b.fin,.int .i64 b.tick] 95))):=(Below.refl _ _).alloc (Nat.le_refl _) _;have HK:=Lib.hid (Bk.new w 95 #[.int .i64 b.ct,.int .i64 b.beg,.int .i64 b.fin,.int .i64 b.tick]);have HX:=Lib.hid hX;have HY:=Lib.hid hY;have x0:(w.alloc (.cells #[.int .i64 b.ct,.int .i64 b.beg,.int .i64 b.fin,.int .i64 b.tick] 95)).cell? ⟨X,0,none⟩=some (.slice A vs.length c):=(HB0.out.cell (p:=⟨X,0,none⟩) (World.block_lt_of_cell? _ _ hX)).trans hX;have HCN:=Lib.hid (Xe8 A c vs b.tick (w.alloc (.cells #[.int .i64 b.ct,.int .i64 b.beg,.int .i64 b.fin,.int .i64 b.tick] 95)) (hA.below HB0.out) hl);have k0:=HK.out.c4;clear hX hY hA;go_enter Tryz.func115,Tryz.ntmps115;go_wp2_with fail;clear x0 k0;refine HCN.out.mono ?_;rintro e w1 ⟨v,rfl,hv,hb1⟩;have HV:=Lib.hid hv;have HB1:=Lib.hid (Xa HB0.out hb1);have HK1:=Lib.hid (HK.out.below hb1 HK.out.lt);have y0:w1.cell? ⟨Y,0,none⟩=some (.int .i64 now):=(HB1.out.cell (p:=⟨Y,0,none⟩) (World.block_lt_of_cell? _ _ HY.out)).trans HY.out;have k0:=HK1.out.c4;clear hv hb1 HCN;cases v with
 | false =>
   have HF:Hid (¬ (vs.contains b.tick && decide (now<b.beg))=true):=fun h=>by
    rw[Bool.and_eq_true] at h;have:=HV.out.2 h.1;cases this
   go_wp2;go_ret;exact ⟨false,rfl,⟨fun h=>(by cases h),fun h=>absurd h HF.out⟩,HB1.out⟩
 | true =>
   have hc:vs.contains b.tick=true:=HV.out.1 rfl
   by_cases h:now<b.beg
   ·have HF:Hid ((vs.contains b.tick && decide (now<b.beg))=true):=by show _=_; rw[hc,decide_eq_true h]; rfl
    have d:decide (b.beg > now)=true:=decide_eq_true h;clear hc;go_wp2;go_ret;exact ⟨true,by first | rfl | simp[h],⟨fun _=>HF.out,fun _=>rfl⟩,HB1.out⟩
   ·have HF:Hid (¬ (vs.contains b.tick && decide (now<b.beg))=true):=by show ¬ _; rw[hc,decide_eq_false h]; simp
    have d:decide (b.beg > now)=false:=decide_eq_false h;clear hc;go_wp2;go_ret;exact ⟨false,by first | rfl | (simp[h]; try omega),⟨fun h=>(by cases h),fun h=>absurd h HF.out⟩,HB1.out⟩
theorem Xm4 (X E:Nat)(A:Option Addr)(c:Nat)(vs:List Int)(now:Int)(b:Bkg)(w:World)(hX:w.cell? ⟨X,0,none⟩=some (.pointer (some ⟨E,0,none⟩)))(h5:w.cell? ⟨E,5,none⟩=some (.slice A vs.length c))(h4:w.cell? ⟨E,4,none⟩=some (.int .i64 now))(hA:SlAt intE w A vs)(hl:vs.length≤1000000) :
  Calls Tryz.prog 210 #[.agg #[.int .i64 b.ct,.int .i64 b.beg,.int .i64 b.fin,.int .i64 b.tick],.pointer (some ⟨X,0,none⟩)] w (Xap ((vs.contains b.tick && decide (now<b.beg))=true) w):=by
 have HB0:Hid (Below w.heap.size w (w.alloc (.cells #[.int .i64 b.ct,.int .i64 b.beg,.int .i64 b.fin,.int .i64 b.tick] 95))):=(Below.refl _ _).alloc (Nat.le_refl _) _;have HK:=Lib.hid (Bk.new w 95 #[.int .i64 b.ct,.int .i64 b.beg,.int .i64 b.fin,.int .i64 b.tick]);have HX:=Lib.hid hX;have H5:=Lib.hid h5;have H4:=Lib.hid h4;have HA:=Lib.hid hA;clear hX h5 h4 hA;obtain ⟨G,hG⟩:∃G:Prop,G=((vs.contains b.tick && decide (now<b.beg))=true):=⟨_,rfl⟩;rw[←hG];have HGI:=Lib.hid hG;clear hG;go_enter Tryz.func210,Tryz.ntmps210;go_wp2_with fail;generalize (w.alloc (.cells #[.int .i64 b.ct,.int .i64 b.beg,.int .i64 b.fin,.int .i64 b.tick] 95))=W at HB0 HK ⊢;generalize hg0:w.heap.size=g0 at HK ⊢;have HD:Hid (∀w',Below W.heap.size W w' → (w'.cell? ⟨X,0,none⟩=some (.pointer (some ⟨E,0,none⟩))∧w'.cell? ⟨E,5,none⟩=some (.slice A vs.length c)∧w'.cell? ⟨E,4,none⟩=some (.int .i64 now)∧w'.cell? ⟨g0,0,none⟩=some (.int .i64 b.ct)∧w'.cell? ⟨g0,1,none⟩=some (.int .i64 b.beg)∧w'.cell? ⟨g0,2,none⟩=some (.int .i64 b.fin)∧w'.cell? ⟨g0,3,none⟩=some (.int .i64 b.tick))):=fun w' hb=>by
  have hw:Below w.heap.size w w':=Xa HB0.out hb;have k:=HK.out.below hb HK.out.lt;exact ⟨(hw.cell (p:=⟨X,0,none⟩) (World.block_lt_of_cell? _ _ HX.out)).trans HX.out,(hw.cell (p:=⟨E,5,none⟩) (World.block_lt_of_cell? _ _ H5.out)).trans H5.out,(hw.cell (p:=⟨E,4,none⟩) (World.block_lt_of_cell? _ _ H4.out)).trans H4.out,k.cell 0,k.cell 1,k.cell 2,k.cell 3⟩
 have HCN:Hid (∀w',Below W.heap.size W w' → Calls Tryz.prog 116 #[.slice A vs.length c,.int .i64 b.tick] w' (Xap (vs.contains b.tick=true) w')):=fun w' hb=>Xe8 A c vs b.tick w' (HA.out.below (Xa HB0.out hb)) hl;generalize hcb:vs.contains b.tick=cb at HCN;have HCN2:Hid (∀w',Below W.heap.size W w' → Calls Tryz.prog 116 #[.slice A vs.length c,.int .i64 b.tick] w' fun e w'' => e = .returned (.bool cb)∧Below w'.heap.size w' w''):=fun w' hb=>(HCN.out w' hb).mono fun e w'' ⟨v,h1,h2,h3⟩=>⟨by
  rw[h1];have:v=cb:=by
   cases v <;> cases cb <;> simp at h2 ⊢
  rw[this],h3⟩
 have HFIN:Hid (∀v:Bool,(cb && decide (now<b.beg))=v→(v=true↔G)):=fun v hv=>by rw[HGI.out,hcb,hv]
 clear hcb HCN HGI;have hSW:(W.drew.cell? ⟨X,0,none⟩=some (.pointer (some ⟨E,0,none⟩))∧W.drew.cell? ⟨E,5,none⟩=some (.slice A vs.length c)∧W.drew.cell? ⟨E,4,none⟩=some (.int .i64 now)∧W.drew.cell? ⟨g0,0,none⟩=some (.int .i64 b.ct)∧W.drew.cell? ⟨g0,1,none⟩=some (.int .i64 b.beg)∧W.drew.cell? ⟨g0,2,none⟩=some (.int .i64 b.fin)∧W.drew.cell? ⟨g0,3,none⟩=some (.int .i64 b.tick)):=HD.out _ (Below.refl _ _).drew;refine Xam (S:=fun w' => (w'.cell? ⟨X,0,none⟩=some (.pointer (some ⟨E,0,none⟩))∧w'.cell? ⟨E,5,none⟩=some (.slice A vs.length c)∧w'.cell? ⟨E,4,none⟩=some (.int .i64 now)∧w'.cell? ⟨g0,0,none⟩=some (.int .i64 b.ct)∧w'.cell? ⟨g0,1,none⟩=some (.int .i64 b.beg)∧w'.cell? ⟨g0,2,none⟩=some (.int .i64 b.fin)∧w'.cell? ⟨g0,3,none⟩=some (.int .i64 b.tick))) [] (by kernel_rfl) hSW (fun hHeld=>?_)
 have HBV:Hid (Below W.heap.size W W.drew):=(Below.refl _ _).drew;clear hSW;generalize W.drew=V at HBV hHeld ⊢;refine tkG 0 (.pointer (some ⟨E,0,none⟩)) ?_;refine tkF 1 _ ?_;refine tkF 2 _ ?_;refine tkG 3 (.slice A vs.length c) ?_;refine tkF 4 _ ?_;refine tkG 5 (.int .i64 b.tick) ?_;clear hHeld;refine Xaa (i:=6) rfl (by kernel_rfl) (by rfl) (fun K hK=>?_)
 go_simp;refine (HCN2.out V HBV.out).mono ?_;rintro e w6 ⟨rfl,hb6⟩;have HB6:=Lib.hid (HBV.out.trans (hb6.mono HBV.out.size));have hHeld:(fun w' => (w'.cell? ⟨X,0,none⟩=some (.pointer (some ⟨E,0,none⟩))∧w'.cell? ⟨E,5,none⟩=some (.slice A vs.length c)∧w'.cell? ⟨E,4,none⟩=some (.int .i64 now)∧w'.cell? ⟨g0,0,none⟩=some (.int .i64 b.ct)∧w'.cell? ⟨g0,1,none⟩=some (.int .i64 b.beg)∧w'.cell? ⟨g0,2,none⟩=some (.int .i64 b.fin)∧w'.cell? ⟨g0,3,none⟩=some (.int .i64 b.tick))) w6:=HD.out _ HB6.out;refine hK _ _ hHeld ?_;clear hK K hb6 HBV HCN2 HD
 try simp only[PU]
 cases cb with
 | false =>
   refine tkF 7 _ ?_;refine tkF 8 undef ?_ (hy:=.inr ⟨by rfl,rfl⟩)
   refine tkF 9 undef ?_ (hy:=.inr ⟨by rfl,rfl⟩)
   refine tkF 10 undef ?_ (hy:=.inr ⟨by rfl,rfl⟩)
   refine tkF 11 undef ?_ (hy:=.inr ⟨by rfl,rfl⟩)
   refine tkF 12 undef ?_ (hy:=.inr ⟨by rfl,rfl⟩)
   refine tkF 13 undef ?_ (hy:=.inr ⟨by rfl,rfl⟩)
   refine tkF 14 undef ?_ (hy:=.inr ⟨by rfl,rfl⟩)
   refine tkF 15 _ ?_;refine tkF 16 _ ?_;refine Xbd (by kernel_rfl) ?_
   clear hHeld;go_wp2;go_ret;exact ⟨false,rfl,HFIN.out false rfl,Xa HB0.out HB6.out⟩
 | true =>
   by_cases h:now<b.beg
   ·have d:decide (b.beg > now)=true:=decide_eq_true h;have HH:=Lib.hid h;refine tkF 7 _ ?_;refine tkF 8 _ ?_;refine tkG 9 (.int .i64 b.beg) ?_;refine tkG 10 (.pointer (some ⟨E,0,none⟩)) ?_;refine tkF 11 _ ?_;refine tkF 12 _ ?_;refine tkG 13 (.int .i64 now) ?_;refine tkF 14 (.bool true) ?_;refine tkF 15 _ ?_;refine tkF 16 _ ?_;refine Xbd (by kernel_rfl) ?_
    clear hHeld;go_wp2;go_ret;exact ⟨true,rfl,HFIN.out true (by rw[decide_eq_true HH.out]; rfl),Xa HB0.out HB6.out⟩
   ·have d:decide (b.beg > now)=false:=decide_eq_false h;have HH:Hid ((true && decide (now<b.beg))=false):=by show _=_; rw[decide_eq_false h]; rfl
    refine tkF 7 _ ?_;refine tkF 8 _ ?_;refine tkG 9 (.int .i64 b.beg) ?_;refine tkG 10 (.pointer (some ⟨E,0,none⟩)) ?_;refine tkF 11 _ ?_;refine tkF 12 _ ?_;refine tkG 13 (.int .i64 now) ?_;refine tkF 14 (.bool false) ?_;refine tkF 15 _ ?_;refine tkF 16 _ ?_;refine Xbd (by kernel_rfl) ?_
    clear hHeld;go_wp2;go_ret;exact ⟨false,rfl,HFIN.out false HH.out,Xa HB0.out HB6.out⟩
theorem Xkz (Aq:Option Addr)(cq:Nat)(Ac:Option Addr)(cc:Nat)(p:Pln)(k:Tk)(A:Option Addr)(cA:Nat)(now:Int)(w:World)(hp:Xas w Aq cq Ac cc p)(hok:Xbe p)(h:HpAt w A cA k.hops)(hl:k.hops.length≤4000)(hb:∀x ∈ k.hops,HopB p x) :
  Calls Tryz.prog 57 #[.agg (plA Aq cq Ac cc p),.agg (tkA k A cA),.int .i64 now] w fun e w' => e = .returned (.bool (Xd1 p now k))∧Below w.heap.size w w':=by
 have HP:=Lib.hid hp;have HS:=Lib.hid h;have HOK:=Lib.hid hok;have HHB:=Lib.hid hb;obtain ⟨_,_,rfl,rfl,-,HB0,HK0,HK1⟩:=box2 w 25 (plA Aq cq Ac cc p) 55 (tkA k A cA);have HPO:=Lib.hid (fun w' hb' => Xe2 Aq cq Ac cc p k A cA now w' (hp.below (w':=w') hb') (h.below hb') hl hb);have HBG:=Lib.hid (fun w' hb' => Xec k A cA now w' (h.below (w':=w') hb') (by omega))
 have HRF:Hid (Xd1 p now k=((posF p now k).isSome && (k.hops.take (begN now k.hops)).all fun h=>decide (Xav k.rq.cust (ctD p h.ct) h≤now) && decide (h.arr≤now))):=rfl;generalize Xd1 p now k=rf at HRF ⊢;have hcA:=h.c;clear hp h hb;have a0:=HK0.out.c2;have k0:=HK1.out.c11;go_enter Tryz.func57,Tryz.ntmps57;go_wp2_with fail;clear a0 k0;generalize ((w.alloc (.cells (plA Aq cq Ac cc p) 25)).alloc (.cells (tkA k A cA) 55))=W at HB0 HK0 HK1 ⊢;generalize hn0:w.heap.size=n0 at HB0 HK0 HK1 ⊢;refine (HPO.out W (by rw[hn0]; exact HB0.out)).mono ?_
 rintro e w1 ⟨rfl,hb1⟩;have HM0:=Lib.hid (HK0.out.below hb1 HK0.out.lt);have HM1:=Lib.hid (HK1.out.below hb1 HK1.out.lt);have HB1:Hid (Below n0 w w1):=HB0.out.trans (hb1.mono (by have:=HK1.out.lt; omega))
 clear hb1 HB0 HK0 HK1 HPO;unfold posV;generalize (posF p now k).isSome=bis at HRF ⊢;generalize (posD p now k).1=d1;generalize (posD p now k).2=d2;cases bis with
 | false =>
   have HR:Hid (rf=false):=HRF.out;clear HRF;go_wp2;go_ret;exact ⟨Xe0 (by rw[HR.out]),by rw[hn0]; exact HB1.out⟩
 | true =>
   have hbl:=Xhx now k.hops;have hlp:∀j x,(k.hops.take (begN now k.hops))[j]? = some x→k.hops[j]? = some x:=fun j x hj=>by
    rw[List.getElem?_take] at hj
    split at hj
    ·exact hj
    ·cases hj
   have HLP:=Lib.hid hlp;have hlen:(k.hops.take (begN now k.hops)).length=begN now k.hops:=by rw[List.length_take]; omega
   have HR:Hid (rf=(k.hops.take (begN now k.hops)).all fun h=>decide (Xav k.rq.cust (ctD p h.ct) h≤now) && decide (h.arr≤now)):=by show _=_; rw[HRF.out]; rfl
   clear HRF hlp;generalize k.hops.take (begN now k.hops)=L at HLP HR hlen;have HD:Hid (∀w',Below w1.heap.size w1 w' → (w'.cell? ⟨n0+1,0,none⟩=some (.int .i64 k.num)∧w'.cell? ⟨n0+1,1,none⟩=some (.int .i64 k.rq.src)∧w'.cell? ⟨n0+1,2,none⟩=some (.int .i64 k.rq.dst)∧w'.cell? ⟨n0+1,3,none⟩=some (.int .i64 k.rq.size)∧w'.cell? ⟨n0+1,4,none⟩=some (.int .i64 k.rq.ready)∧w'.cell? ⟨n0+1,5,none⟩=some (.int .i64 k.rq.dead)∧w'.cell? ⟨n0+1,6,none⟩=some (.int .i64 k.rq.prio)∧w'.cell? ⟨n0+1,7,none⟩=some (.bool k.rq.cust)∧w'.cell? ⟨n0+1,8,none⟩=some (.slice A k.hops.length cA)∧w'.cell? ⟨n0+1,9,none⟩=some (.int .i64 k.st)∧w'.cell? ⟨n0+1,10,none⟩=some (.int .i64 k.til))):=fun w' hb' => by
    have h4:=HM1.out.below hb' HM1.out.lt;exact ⟨h4.cell 0,h4.cell 1,h4.cell 2,h4.cell 3,h4.cell 4,h4.cell 5,h4.cell 6,h4.cell 7,h4.cell 8,h4.cell 9,h4.cell 10⟩
   have HBG1:Hid (∀w',Below w1.heap.size w1 w' → Calls Tryz.prog 125 #[.agg (tkA k A cA),.int .i64 now] w' fun e w'' => e = .returned (.int .i64 (begN now k.hops))∧Below w'.heap.size w' w''):=fun w' hb' => HBG.out w' (by rw[hn0]; exact HB1.out.trans (hb'.mono (by have:=HM1.out.lt; omega)))
   have HBN:=Lib.hid hlen;generalize begN now k.hops=n at hbl HBN hlen HBG1;have hn1:(n:Int)≤(cA:Int):=by omega
   have hn2:(0:Int)≤(n:Int):=by omega
   have hn3:n≤cA:=by omega
   clear HBG;go_wp2_with fail;go_region_held3 (fun w' => (w'.cell? ⟨n0+1,0,none⟩=some (.int .i64 k.num)∧w'.cell? ⟨n0+1,1,none⟩=some (.int .i64 k.rq.src)∧w'.cell? ⟨n0+1,2,none⟩=some (.int .i64 k.rq.dst)∧w'.cell? ⟨n0+1,3,none⟩=some (.int .i64 k.rq.size)∧w'.cell? ⟨n0+1,4,none⟩=some (.int .i64 k.rq.ready)∧w'.cell? ⟨n0+1,5,none⟩=some (.int .i64 k.rq.dead)∧w'.cell? ⟨n0+1,6,none⟩=some (.int .i64 k.rq.prio)∧w'.cell? ⟨n0+1,7,none⟩=some (.bool k.rq.cust)∧w'.cell? ⟨n0+1,8,none⟩=some (.slice A k.hops.length cA)∧w'.cell? ⟨n0+1,9,none⟩=some (.int .i64 k.st)∧w'.cell? ⟨n0+1,10,none⟩=some (.int .i64 k.til))∧Hid (Below w1.heap.size w1 w')) (((try go_split_ands); first | exact Xa7 HD (Below.refl _ _).drew | exact Xaw HD (by assumption) hb6))
    ((go_at_call 125
      refine (HBG1.out _ (Hid.out (by (try go_split_ands); assumption))).mono ?_
      rintro e w6 ⟨rfl,hb6⟩))
   have HBF:Hid (Below w1.heap.size w1 w6):=by (try go_split_ands); assumption
   have HB6:Hid (Below n0 w w6):=HB1.out.trans (HBF.out.mono (by have:=HM1.out.lt; omega))
   have HN0:=Lib.hid (HM0.out.below HBF.out HM0.out.lt);have HN1:=Lib.hid (HM1.out.below HBF.out HM1.out.lt);clear HD HBG1 HBF HM0 HM1 HB1;have HALLF:Hid (∀(j:Nat) (x:Hop),L[j]? = some x→(L.take j).all (fun h=>decide (Xav k.rq.cust (ctD p h.ct) h≤now) && decide (h.arr≤now))=true→Xav k.rq.cust (ctD p x.ct) x≤now→x.arr≤now→(L.take (j+1)).all (fun h=>decide (Xav k.rq.cust (ctD p h.ct) h≤now) && decide (h.arr≤now))=true):=fun j x hx h1 h2 h3=>by
    rw[take_snoc hx,List.all_append,h1];simp[h2,h3]
   have HALLN:Hid (∀(x:Hop),x ∈ L → ¬ (Xav k.rq.cust (ctD p x.ct) x≤now∧x.arr≤now)→rf=false):=fun x hx h=>by
    rw[HR.out,List.all_eq_false];exact ⟨x,hx,by simpa using h⟩
   have HALLY:Hid ((L.take n).all (fun h=>decide (Xav k.rq.cust (ctD p h.ct) h≤now) && decide (h.arr≤now))=true→rf=true):=fun h=>by
    rw[HR.out]
    rwa [List.take_of_length_le (by omega)] at h
   generalize hfe:(fun h:Hop=>decide (Xav k.rq.cust (ctD p h.ct) h≤now) && decide (h.arr≤now))=f at HALLF HALLY HR;clear HR hfe;go_wp2_with fail;go_loopw [11,29] (fun _ i wr => ∃j:Nat,j≤n∧i = .int .i64 j∧Below w6.heap.size w6 wr∧(L.take j).all f=true) (fun _ i _=>n - (intOf i).toNat)
   case atStart=>exact ⟨0,Nat.zero_le _,rfl,Below.refl _ _,by simp⟩
   case round =>
    obtain ⟨j,hj,rfl,hbw,hall⟩:=hrel;obtain ⟨wq,rfl⟩:∃wo:World,wo=wr:=⟨_,rfl⟩;have HBW:=Lib.hid hbw;have HAL:=Lib.hid hall;have HB7:Hid (Below n0 w wq):=HB6.out.trans (hbw.mono (by have:=HN1.out.lt; omega))
    have HQ0:=Lib.hid (HN0.out.below hbw HN0.out.lt);have HQ1:=Lib.hid (HN1.out.below hbw HN1.out.lt);clear hbw hall
    by_cases hlt:j<n
    ·obtain ⟨b,off,rfl,hr⟩:=HS.out.s.one (by omega)
     obtain ⟨x,hx⟩:∃x,L[j]? = some x:=⟨_,List.getElem?_eq_getElem (by omega)⟩
     have HX:=Lib.hid hx;have hxk:=HLP.out j x hx;have hrg:=Xa3 (hr j x hxk) (show Below w.heap.size w wq by rw[hn0]; exact HB7.out)
     have HXB:=Lib.hid (HHB.out x (List.mem_of_getElem? hxk));have c0:wq.cell? ⟨b,off+j * 4,none⟩=some (.int .i64 x.ct):=hrg 0 _ rfl;have c1:wq.cell? ⟨b,off+j * 4+1,none⟩=some (.int .i64 x.beg):=hrg 1 _ rfl;have c2:wq.cell? ⟨b,off+j * 4+2,none⟩=some (.int .i64 x.fin):=hrg 2 _ rfl;have c3:wq.cell? ⟨b,off+j * 4+3,none⟩=some (.int .i64 x.arr):=hrg 3 _ rfl;obtain ⟨_,_,rfl,rfl,-,HBN,HX8⟩:=box1 wq 41 #[.int .i64 x.ct,.int .i64 x.beg,.int .i64 x.fin,.int .i64 x.arr];have HB8:Hid (Below n0 w (wq.alloc (.cells #[.int .i64 x.ct,.int .i64 x.beg,.int .i64 x.fin,.int .i64 x.arr] 41))):=HB7.out.trans (HBN.out.mono (by have:=HQ1.out.lt; omega))
     have HBW8:=Lib.hid (Xa HBW.out HBN.out);have HR0:=Lib.hid (HQ0.out.below HBN.out HQ0.out.lt);have HR1:=Lib.hid (HQ1.out.below HBN.out HQ1.out.lt);have HLV:=Lib.hid (fun w' hb' => Xez Aq cq Ac cc p k.rq x w' (HP.out.below (w':=w') hb') HOK.out HXB.out);have a0:=HR0.out.c2;have k0:=HR1.out.c11;obtain ⟨y0,y1,y2,y3⟩:=HX8.out.c4;clear hr hx hxk hrg;go_wp2_with fail;clear a0 k0 y0 y1 y2 y3 c0 c1 c2 c3;generalize wq.alloc (.cells #[.int .i64 x.ct,.int .i64 x.beg,.int .i64 x.fin,.int .i64 x.arr] 41)=w8 at HX8 HB8 HBW8 HR0 HR1 ⊢;generalize wq.heap.size=g8 at HX8 ⊢;refine (HLV.out w8 (by rw[hn0]; exact HB8.out)).mono ?_
     rintro e w9 ⟨rfl,hb9⟩;have HX9:=Lib.hid (HX8.out.below hb9 HX8.out.lt);have HB9:Hid (Below n0 w w9):=HB8.out.trans (hb9.mono (by have:=HR1.out.lt; omega))
     have HBW9:=Lib.hid (Xa HBW8.out hb9);have HALL:=Lib.hid (HALLF.out j x HX.out HAL.out);have HALN:=Lib.hid (HALLN.out x (List.mem_of_getElem? HX.out));have y3:=HX9.out.n3;clear hb9 HLV;generalize Xav k.rq.cust (ctD p x.ct) x=lv at HALL HALN ⊢
     by_cases h1:now<lv
     ·have HF:=Lib.hid (HALN.out (by omega))
      go_wp2;go_ret;exact ⟨Xe0 (by rw[HF.out]),by rw[hn0]; exact HB9.out⟩
     ·by_cases h2:now<x.arr
      ·have HF:=Lib.hid (HALN.out (by omega))
       go_wp2;go_ret;exact ⟨Xe0 (by rw[HF.out]),by rw[hn0]; exact HB9.out⟩
      ·have HT:=Lib.hid (HALL.out (by omega) (by omega))
       go_wp2;go_roundw
       case rel=>exact ⟨j+1,by omega,by go_num,HBW9.out,HT.out⟩
       case measure=>simp[intOf]; omega
    ·have e:j=n:=by omega
     subst e;have HF:=Lib.hid (HALLY.out HAL.out);go_wp2;go_ret;exact ⟨Xe0 (by rw[HF.out]),by rw[hn0]; exact HB7.out⟩
end Go.Proofs.YtebkgbmijocdjaaGreat.Tp
