/- A part of the proof for the ledger. No condition beyond those that each theorem states. -/
import Derived.Test.YtebkgbmijocdjaaGreatZ26
import Derived.Test.YtebkgbmijocdjaaGreatZ28
import Derived.Test.YtebkgbmijocdjaaGreatZ29
set_option maxHeartbeats 32000000
set_option maxRecDepth 100000
set_option linter.unusedVariables false
set_option linter.unusedSimpArgs false
namespace Go.Proofs.YtebkgbmijocdjaaGreat.Tp
open Go Go.RowKit
theorem Xq4 {l m:List Int}(h:∀t,t ∈ l↔t ∈ m):minO none l=minO none m:=by
 cases hl:minO none l with
 | none =>
   have h1:=Xlb.1 hl;cases hm:minO none m with
   | none=>rfl
   | some n =>
     have h2:=(h n).2 (Xdh hm).1;rw[h1] at h2;simp at h2
 | some a =>
   cases hm:minO none m with
   | none =>
     have h2:=(h a).1 (Xdh hl).1;rw[Xlb.1 hm] at h2;simp at h2
   | some b =>
     have h1:=Xdh hl;have h2:=Xdh hm;have h3:=h1.2 b ((h b).2 h2.1);have h4:=h2.2 a ((h a).1 h1.1);rw[show a=b by omega]
theorem Xlv {g:Grf}{L M:List Lab}(h:L.Perm M):minO none (arrT g L)=minO none (arrT g M):=Xq4 fun t=>by
 rw[Xji,Xji];constructor
 ·rintro ⟨x,hx,r⟩; exact ⟨x,h.mem_iff.1 hx,r⟩
 ·rintro ⟨x,hx,r⟩; exact ⟨x,h.mem_iff.2 hx,r⟩
def Xdi (t:Tbl)(q:Rq):Option Int:=minO none (arrT (grf t q) (Xfn (grf t q)))
def arvV:Option Int→Value
 | none => .tuple #[.int .i64 0,.int .i64 18]
 | some n => .tuple #[.int .i64 n,.int .i64 0]
theorem Xes (Aq:Option Addr)(cq:Nat)(Ac:Option Addr)(cc:Nat)(B:Option Addr)(cb:Nat)(H:Option Addr)(ch:Nat)(t:Tbl)(q:Rq)(w:World)(ht:Xcm w Aq cq Ac cc B cb H ch t)(hok:Xb5 t)(hq:RqOK t.p q) :
  Calls Tryz.prog 9 #[.agg (tbA Aq cq Ac cc B cb H ch t),.agg (rqA q)] w fun e w' => e = .returned (arvV (Xdi t q))∧Below w.heap.size w w':=by
 have HT:=Lib.hid ht;have HOK:=Lib.hid hok;have HQ:=Lib.hid hq;obtain ⟨_,_,rfl,rfl,-,HB0,HK0,HK1⟩:=box2 w 29 (tbA Aq cq Ac cc B cb H ch t) 31 (rqL q).toArray;have HBU:=Lib.hid (fun w' hb=>Xhw Aq cq Ac cc B cb H ch t q w' (ht.below (w':=w') hb) hok hq);have a0:=HK0.out.c4;have b0:=HK1.out.c7;clear ht hok hq;go_enter Tryz.func9,Tryz.ntmps9;go_wp2_with fail;clear a0 b0 HK0 HK1;generalize ((w.alloc (.cells (tbA Aq cq Ac cc B cb H ch t) 29)).alloc (.cells (rqL q).toArray 31))=W at HB0 ⊢;refine (HBU.out W HB0.out).mono ?_;rintro e w1 ⟨G,rfl,hg1,hG1,hb1⟩;have HG1:=Lib.hid hg1;have HB1:Hid (Below w.heap.size w w1):=Xa HB0.out hb1;clear hg1 hb1 HB0 HBU;go_wp2_with fail;refine (Xg4 G t q w1 HG1.out).mono ?_;rintro e w2 ⟨L,hp,A,c,rfl,hs,hc,hba,hb2⟩;have HG2:=Lib.hid (HG1.out.below hb2);have HB2:Hid (Below w.heap.size w w2):=Xa HB1.out hb2;have hlb:=(Xjq (Xfq HOK.out HQ.out)).perm hp;have HAR:=Lib.hid (Xi G t q A c L w2 HG2.out hs hlb.fine (by have h1:=hlb.few; have h2:=Xjt (q:=q) HOK.out; omega))
 have HBF:Hid (minO none (arrT (grf t q) L)=Xdi t q):=Xlv hp;clear hp hs hc hba hb2 hlb HB1 HG1;rw[HBF.out] at HAR;go_wp2_with fail;refine HAR.out.mono ?_;rintro e w3 ⟨rfl,hb3⟩;have HB3:Hid (Below w.heap.size w w3):=Xa HB2.out hb3;clear hb3 HB2 HG2 HAR HBF;cases hbf:Xdi t q with
 | none =>
   dsimp only[Option.getD,Option.isSome]
   go_wp2;go_ret2;exact ⟨by rw[hbf]; rfl,HB3.out⟩
 | some n =>
   dsimp only[Option.getD,Option.isSome]
   go_wp2;go_ret2;exact ⟨by rw[hbf]; rfl,HB3.out⟩
def Xn7 (t:Tbl)(q:Rq)(n:Int)(m:List Hop):Prop:=∃L x xs,L.Perm (Xfn (grf t q))∧Xc1 (grf t q) L n x m xs∧x.node=q.src∧x.time=q.ready
def Xu (t:Tbl)(q:Rq)(w:World)(e:Ending)(w':World):Prop:=Below w.heap.size w w' ∧ match Xdi t q with
 | none=>e = .returned (.tuple #[.slice none 0 0,.int .i64 18])
 | some n => ∃m A c,Xn7 t q n m∧e = .returned (.tuple #[.slice A m.length c,.int .i64 0])∧HpAt w' A c m
theorem Xn7.len {t:Tbl}{q:Rq}{n:Int}{m:List Hop}(hok:Xb5 t)(hq:RqOK t.p q)(h:Xn7 t q n m):m.length≤keyN (grf t q):=by
 obtain ⟨L,x,xs,hp,hl,_⟩:=h;have h1:=hl.few (Xfq hok hq);have h2:=((Xjq (Xfq hok hq)).perm hp).few;omega
structure EaV (n0 GB LB TB base:Nat)(wB:World)(G:Nat)(q:Rq)(sl:Value)(out:List Hop)(to_:Lab)(vo:Value)(W:World):Prop where
 be:Below base wB W
 tb:Bk W TB 81 (lbA to_)
 ro:W.ownsRow base 41 4 vo out.length (out.flatMap hpE.f)
 lt:base≤TB
theorem EaV.below {n0 GB LB TB base:Nat}{wB:World}{G:Nat}{q:Rq}{sl:Value}{out:List Hop}{to_:Lab}{vo:Value}{W W':World}(h:EaV n0 GB LB TB base wB G q sl out to_ vo W)(hb:Below W.heap.size W W'):EaV n0 GB LB TB base wB G q sl out to_ vo W' :=
 ⟨h.be.trans (hb.mono (by have:=h.tb.lt; have:=h.lt; omega)),h.tb.below hb h.tb.lt,Xa6 h.ro hb,h.lt⟩
theorem Xnj:(Tryz.prog.info? 41).map (fun i=>(i.zero,i.size,i.bytes))=some (some (.agg #[.int .i64 0,.int .i64 0,.int .i64 0,.int .i64 0]),4,32):=by kernel_rfl
theorem Xlm (Aq:Option Addr)(cq:Nat)(Ac:Option Addr)(cc:Nat)(B:Option Addr)(cb:Nat)(H:Option Addr)(ch:Nat)(t:Tbl)(q:Rq)(w:World)(ht:Xcm w Aq cq Ac cc B cb H ch t)(hok:Xb5 t)(hq:RqOK t.p q) :
  Calls Tryz.prog 10 #[.agg (tbA Aq cq Ac cc B cb H ch t),.agg (rqA q)] w (Xu t q w):=by
 have HT:=Lib.hid ht;have HOK:=Lib.hid hok;have HQ:=Lib.hid hq;obtain ⟨_,_,rfl,rfl,-,HB0,HK0,HK1⟩:=box2 w 29 (tbA Aq cq Ac cc B cb H ch t) 31 (rqL q).toArray;have HBU:=Lib.hid (fun w' hb=>Xhw Aq cq Ac cc B cb H ch t q w' (ht.below (w':=w') hb) hok hq);have a0:=HK0.out.c4;obtain ⟨b0,b1,b2,b3,b4,b5,b6⟩:=HK1.out.c7;clear ht hok hq;have hmf:=fun (fn:Fn) (first cap:Array Value) (w:World)=>(rfl:(Instr.makeFunc fn first cap).run Tryz.prog w = .ok (.func fn first cap) w)
 go_enter Tryz.func10,Tryz.ntmps10;go_wp2_with fail;clear a0 b0 b1 b2 b3 b4 b5 b6 HK0;generalize ((w.alloc (.cells (tbA Aq cq Ac cc B cb H ch t) 29)).alloc (.cells (rqL q).toArray 31))=W at HB0 HK1 ⊢;refine (HBU.out W HB0.out).mono ?_;rintro e w1 ⟨G,rfl,hg1,hG1,hb1⟩;have HN1:=Lib.hid (HK1.out.below hb1 HK1.out.lt);have HBX:Hid (Below w1.heap.size w1 (w1.alloc (.cells #[.pointer (some ⟨G,0,none⟩)] 74))):=(Below.refl _ _).alloc (Nat.le_refl _) _;have HG1:=Lib.hid (hg1.below HBX.out);have HGB:Hid (Bk (w1.alloc (.cells #[.pointer (some ⟨G,0,none⟩)] 74)) w1.heap.size 74 #[.pointer (some ⟨G,0,none⟩)]):=Bk.new _ _ _;have HB1:Hid (Below w.heap.size w (w1.alloc (.cells #[.pointer (some ⟨G,0,none⟩)] 74))):=Xa (Xa HB0.out hb1) HBX.out;have HM1:=Lib.hid (HN1.out.below HBX.out HN1.out.lt);have g0:=HGB.out.n0;clear hg1 hb1 HB0 HBU HK1 HN1 HBX;go_wp2_with fail;generalize (w1.alloc (.cells #[.pointer (some ⟨G,0,none⟩)] 74))=w2 at HG1 HGB HB1 HM1 g0 ⊢;generalize w1.heap.size=GB at HGB g0 ⊢;generalize hn0:w.heap.size=n0 at HM1 HB1 ⊢;refine (Xg4 G t q w2 HG1.out).mono ?_;rintro e w3 ⟨L,hp,A,c,rfl,hs,hc,hba,hb2⟩;have HBX:Hid (Below w3.heap.size w3 (w3.alloc (.cells #[.slice A L.length c] 57))):=(Below.refl _ _).alloc (Nat.le_refl _) _;have hb2x:=Xa hb2 HBX.out;have HG2:=Lib.hid (HG1.out.below hb2x);have HLB:Hid (Bk (w3.alloc (.cells #[.slice A L.length c] 57)) w3.heap.size 57 #[.slice A L.length c]):=Bk.new _ _ _
 have HS2:=Lib.hid (hs.below HBX.out);have HB2:Hid (Below n0 w (w3.alloc (.cells #[.slice A L.length c] 57))):=HB1.out.trans (hb2x.mono (by have:=HM1.out.lt; omega))
 have HM2:=Lib.hid (HM1.out.below hb2x HM1.out.lt);have HGB2:=Lib.hid (HGB.out.below hb2x HGB.out.lt);have HLL:Hid (Labs (grf t q) L):=(Xjq (Xfq HOK.out HQ.out)).perm hp;have HPM:=Lib.hid hp;have HLN:Hid (L.length≤528):=by
  have h1:=HLL.out.few;have h2:=Xjt (q:=q) HOK.out;show _≤_;omega
 have HBF:Hid (minO none (arrT (grf t q) L)=Xdi t q):=Xlv hp;have HAR:=Lib.hid (Xi G t q A c L _ HG2.out HS2.out HLL.out.fine (by have:=HLN.out; omega))
 have g0:=HGB2.out.n0;have l0:=HLB.out.n0;clear hp hs hc hba hb2 hb2x HB1 HG1 HM1 HGB HBX;rw[HBF.out] at HAR;go_wp2_with fail;generalize (w3.alloc (.cells #[.slice A L.length c] 57))=w4 at HG2 HLB HS2 HB2 HM2 HGB2 HAR g0 l0 ⊢;generalize w3.heap.size=LB at HLB l0 ⊢;refine HAR.out.mono ?_;rintro e w5 ⟨rfl,hb5⟩;have HG5:=Lib.hid (HG2.out.below hb5);have HLB5:=Lib.hid (HLB.out.below hb5 HLB.out.lt);have HS5:=Lib.hid (HS2.out.below hb5);have HB5:Hid (Below n0 w w5):=HB2.out.trans (hb5.mono (by have:=HM2.out.lt; omega))
 have HM5:=Lib.hid (HM2.out.below hb5 HM2.out.lt);have HGB5:=Lib.hid (HGB2.out.below hb5 HGB2.out.lt);clear hb5 HB2 HG2 HAR HLB HS2 HM2 HGB2 g0 l0;cases hbf:Xdi t q with
 | none =>
   dsimp only[Option.getD,Option.isSome]
   go_wp2;go_ret2;refine ⟨by rw[hn0]; exact HB5.out,?_⟩
   rw[hbf]
   rfl
 | some n =>
   dsimp only[Option.getD,Option.isSome]
   have HAT:Hid (n ∈ arrT (grf t q) L):=(Xdh (HBF.out.trans hbf)).1;have HBD:=Lib.hid hbf;have q1:=HM5.out.n1;have HTB:Hid (EaV n0 GB LB w5.heap.size w5.heap.size w5 G q (.slice A L.length c) [] (endL (grf t q) n) (.slice none 0 0) (w5.alloc (.cells #[.int .i64 q.dst,.int .i64 0,.int .i64 1099511627776,.int .i64 n] 81))):=⟨(Below.refl _ _).alloc (Nat.le_refl _) _,Bk.new _ _ _,World.ownsRow_nil _ _ _ _,Nat.le_refl _⟩;clear hbf HBF;go_wp2_with fail;generalize (w5.alloc (.cells #[.int .i64 q.dst,.int .i64 0,.int .i64 1099511627776,.int .i64 n] 81))=w6 at HTB ⊢;generalize hsz:w5.heap.size=base at HTB ⊢;clear q1;go_loopw [12,13,14,15,16] (fun o p _ _ _ wr => ∃(out:List Hop) (to_:Lab) (vo:Value) (TB:Nat),o=vo∧p = .pointer (some ⟨TB,0,none⟩)∧EaV n0 GB LB TB base w5 G q (.slice A L.length c) out to_ vo wr∧Xfv (grf t q) L n out to_∧(out = [] ∨ ¬ (to_.node=q.src∧to_.time=q.ready))) (fun o _ _ _ _ _=>L.length - (match o with | .slice _ m _=>m | _=>0))
   case atStart=>exact ⟨[],endL (grf t q) n,_,_,rfl,rfl,HTB.out,.inl ⟨rfl,rfl⟩,.inl rfl⟩
   case round =>
    obtain ⟨out,to_,vo,TB,rfl,rfl,hv,hst,hne⟩:=hrel;obtain ⟨A1,c1,rfl,-, -⟩:=Xah (E:=hpE) hv.ro;have HV:=Lib.hid hv;have HST:=Lib.hid hst;have HNE:=Lib.hid hne;clear hv hst hne HTB;obtain ⟨xh,hxh⟩:=Option.ne_none_iff_exists'.1 (HST.out.found HLL.out HAT.out HNE.out);obtain ⟨x,h⟩:=xh;have HXH:=Lib.hid hxh;have HNX:Hid (Xfv (grf t q) L n (out ++ [h]) x):=HST.out.next hxh;have HFW:Hid ((out ++ [h]).length≤L.length):=HNX.out.few (Xfq HOK.out HQ.out);have hbw:Below w5.heap.size w5 wr:=by rw[hsz]; exact HV.out.be
    have HBC:=Lib.hid (Xp LB GB G t q A c L to_ wr (HG5.out.below hbw) (HLB5.out.below hbw HLB5.out.lt) (HGB5.out.below hbw HGB5.out.lt) (HS5.out.below hbw) HLL.out.fine (by have:=HLN.out; omega))
    obtain ⟨t0,t1,t2,t3⟩:=HV.out.tb.c4;clear hbw;rw[hxh] at HBC;clear hxh;unfold befV at HBC;go_wp2_with fail;refine HBC.out.mono ?_;rintro e w7 ⟨rfl,hb7⟩;have HV7:=Lib.hid (HV.out.below hb7);clear hb7 HV HBC t0 t1 t2 t3;have HX8:Hid (Bk ((w7.alloc (.cells #[.int .i64 x.node,.int .i64 x.frm,.int .i64 x.til,.int .i64 x.time] 81)).alloc (.cells #[.int .i64 h.ct,.int .i64 h.beg,.int .i64 h.fin,.int .i64 h.arr] 41)) w7.heap.size 81 (lbA x)):=(Bk.new _ _ _).alloc _;have HH8:Hid (Bk ((w7.alloc (.cells #[.int .i64 x.node,.int .i64 x.frm,.int .i64 x.til,.int .i64 x.time] 81)).alloc (.cells #[.int .i64 h.ct,.int .i64 h.beg,.int .i64 h.fin,.int .i64 h.arr] 41)) (w7.heap.size+1) 41 #[.int .i64 h.ct,.int .i64 h.beg,.int .i64 h.fin,.int .i64 h.arr]):=by
     have h':=Bk.new (w7.alloc (.cells #[.int .i64 x.node,.int .i64 x.frm,.int .i64 x.til,.int .i64 x.time] 81)) 41 #[.int .i64 h.ct,.int .i64 h.beg,.int .i64 h.fin,.int .i64 h.arr]
     rwa [World.size_alloc] at h'
    have HB8:Hid (Below w7.heap.size w7 ((w7.alloc (.cells #[.int .i64 x.node,.int .i64 x.frm,.int .i64 x.til,.int .i64 x.time] 81)).alloc (.cells #[.int .i64 h.ct,.int .i64 h.beg,.int .i64 h.fin,.int .i64 h.arr] 41))):=((Below.refl _ _).alloc (Nat.le_refl _) _).alloc (by simp) _
    have HV8:=Lib.hid (HV7.out.below HB8.out);have HB9:Hid (Below ((w7.alloc (.cells #[.int .i64 x.node,.int .i64 x.frm,.int .i64 x.til,.int .i64 x.time] 81)).alloc (.cells #[.int .i64 h.ct,.int .i64 h.beg,.int .i64 h.fin,.int .i64 h.arr] 41)).heap.size ((w7.alloc (.cells #[.int .i64 x.node,.int .i64 x.frm,.int .i64 x.til,.int .i64 x.time] 81)).alloc (.cells #[.int .i64 h.ct,.int .i64 h.beg,.int .i64 h.fin,.int .i64 h.arr] 41)) (((w7.alloc (.cells #[.int .i64 x.node,.int .i64 x.frm,.int .i64 x.til,.int .i64 x.time] 81)).alloc (.cells #[.int .i64 h.ct,.int .i64 h.beg,.int .i64 h.fin,.int .i64 h.arr] 41)).alloc (.cells #[.int .i64 h.ct,.int .i64 h.beg,.int .i64 h.fin,.int .i64 h.arr] 41))):=(Below.refl _ _).alloc (Nat.le_refl _) _;have HV9:=Lib.hid (HV8.out.below HB9.out);have HX9:=Lib.hid (HX8.out.below HB9.out HX8.out.lt);obtain ⟨h0,h1,h2,h3⟩:=HH8.out.c4;obtain ⟨i0,hi0,hz0,hz1,hz2⟩:=info_parts Xnj;have HOL:Hid (out.length≤528):=by
     have e1:=HFW.out;have e2:=HLN.out;rw[List.length_append] at e1;show _≤_;omega
    have HXT:Hid (w7.heap.size ≠ TB):=by have:=HV7.out.tb.lt; show _ ≠ _; omega
    go_wp2_with (at_builtin; refine wpList_append_own_at _ rfl _ _ 37 rfl base 41 i0 (.agg #[.int .i64 0,.int .i64 0,.int .i64 0,.int .i64 0]) 4 32 Tryz.underlying37 hi0 hz0 hz1 hz2 rfl (by decide) _ _ _ rfl HV9.out.ro ⟨_,0,none⟩ 1 1 [.int .i64 h.ct,.int .i64 h.beg,.int .i64 h.fin,.int .i64 h.arr] rfl rfl ?d1 ?d2 ?d3 ?d4 ?d5 ?_)
    case d1=>exact fun j u hu=>by rw[Addr.add_mid,Nat.zero_add]; exact Xcj _ [.int .i64 h.ct,.int .i64 h.beg,.int .i64 h.fin,.int .i64 h.arr] _ (by simp) j u hu
    case d2=>exact fun u hu=>hpE.one h u hu
    case d3=>have:=HOL.out; unfold maxLen; omega
    case d4=>have:=HOL.out; omega
    case d5=>have e1:=HV9.out.tb.lt; have e2:=HV9.out.lt; omega
    intro v8 w8 g2 g3 _ _;have hfl:out.flatMap hpE.f ++ [.int .i64 h.ct,.int .i64 h.beg,.int .i64 h.fin,.int .i64 h.arr] = (out ++ [h]).flatMap hpE.f:=by rw[List.flatMap_append]; rfl
    have hln:out.length+1=(out ++ [h]).length:=by rw[List.length_append]; rfl
    rw[hfl,hln] at g2;obtain ⟨A8,c8,e8,-, -⟩:=Xah (E:=hpE) g2;rw[←hln] at e8;subst e8;have hx8:=HX9.out.grown g3 (Xa1 HX9.out (by decide) HV9.out.ro)
    have ht8:=HV9.out.tb.grown g3 (Xa1 HV9.out.tb (by decide) HV9.out.ro)
    have hb8:Below base w5 w8:=HV9.out.be.grown g3 (by have e1:=HV9.out.tb.lt; have e2:=HV9.out.lt; omega) (fun r e=>(Xbp HV9.out.ro r e).1)
    obtain ⟨p1,p2,p3⟩:=put4 ht8 hb8 HV9.out.lt (.int .i64 x.node) (.int .i64 x.frm) (.int .i64 x.til) (.int .i64 x.time);have hx9:=p3 HXT.out hx8;have hr9:((((w8.setCell ⟨TB,0,none⟩ (.int .i64 x.node)).setCell ⟨TB,1,none⟩ (.int .i64 x.frm)).setCell ⟨TB,2,none⟩ (.int .i64 x.til)).setCell ⟨TB,3,none⟩ (.int .i64 x.time)).ownsRow base 41 4 (.slice A8 (out.length+1) c8) (out ++ [h]).length ((out ++ [h]).flatMap hpE.f):=by
     have k1:=g2.kept (Xa0 w8 TB 0 (.int .i64 x.node)) (.inr (Xa1 ht8 (by decide) g2).symm)
     have t1:=ht8.put 0 (.int .i64 x.node);have k2:=k1.kept (Xa0 _ TB 1 (.int .i64 x.frm)) (.inr (Xa1 t1 (by decide) k1).symm)
     have t2:=t1.put 1 (.int .i64 x.frm);have k3:=k2.kept (Xa0 _ TB 2 (.int .i64 x.til)) (.inr (Xa1 t2 (by decide) k2).symm)
     have t3:=t2.put 2 (.int .i64 x.til);exact k3.kept (Xa0 _ TB 3 (.int .i64 x.time)) (.inr (Xa1 t3 (by decide) k3).symm)
    have HVP:Hid (EaV n0 GB LB TB base w5 G q (.slice A L.length c) (out ++ [h]) x (.slice A8 (out.length+1) c8) ((((w8.setCell ⟨TB,0,none⟩ (.int .i64 x.node)).setCell ⟨TB,1,none⟩ (.int .i64 x.frm)).setCell ⟨TB,2,none⟩ (.int .i64 x.til)).setCell ⟨TB,3,none⟩ (.int .i64 x.time))):=⟨p2,p1,hr9,HV9.out.lt⟩;have HXP:=Lib.hid hx9;have x0:=hx8.c4;obtain ⟨t0,t1,t2,t3⟩:=ht8.c4;have f0:=ht8.f4;have hb9w:Below w5.heap.size w5 ((((w8.setCell ⟨TB,0,none⟩ (.int .i64 x.node)).setCell ⟨TB,1,none⟩ (.int .i64 x.frm)).setCell ⟨TB,2,none⟩ (.int .i64 x.til)).setCell ⟨TB,3,none⟩ (.int .i64 x.time)):=by rw[hsz]; exact p2
    have hq9:=HM5.out.below hb9w HM5.out.lt;have y0:=hx9.n0;have y3:=hx9.n3;have b0:=hq9.n0;have b3:=hq9.n3;have z0:=p1.c4;clear g2 g3 hfl hln hx8 ht8 hb8 p1 p2 p3 hx9 hr9 hb9w hq9 h0 h1 h2 h3 HV7 HX8 HH8 HB8 HV8 HB9 HV9 HX9 hi0 hz0 hz1 hz2;have HREL:Hid (∀TB',EaV n0 GB LB TB' base w5 G q (.slice A L.length c) (out ++ [h]) x (.slice A8 (out.length+1) c8) (((((w8.setCell ⟨TB,0,none⟩ (.int .i64 x.node)).setCell ⟨TB,1,none⟩ (.int .i64 x.frm)).setCell ⟨TB,2,none⟩ (.int .i64 x.til)).setCell ⟨TB,3,none⟩ (.int .i64 x.time)).alloc (.cells #[.int .i64 x.node,.int .i64 x.frm,.int .i64 x.til,.int .i64 x.time] 81))→True):=fun _ _=>trivial;clear HREL
    by_cases hs:x.node=q.src
    ·have d1:(x.node == q.src)=true:=by simpa using hs
     by_cases hr:x.time=q.ready
     ·have d2:(x.time == q.ready)=true:=by simpa using hr
      have HEND:Hid (Xn7 t q n (out ++ [h]).reverse):=by
       rcases HNX.out with ⟨e,_⟩ | ⟨xs,hp⟩
       ·simp at e
       ·exact ⟨L,x,xs,HPM.out,hp,hs,hr⟩
      clear hs hr;have hlim:((out.length:Int)+1)≤1000:=by have:=HOL.out; omega
      go_wp2_with fail;clear hlim;refine (Xm8 base (.slice A8 (out.length+1) c8) (out ++ [h]) ((((w8.setCell ⟨TB,0,none⟩ (.int .i64 x.node)).setCell ⟨TB,1,none⟩ (.int .i64 x.frm)).setCell ⟨TB,2,none⟩ (.int .i64 x.til)).setCell ⟨TB,3,none⟩ (.int .i64 x.time)) HVP.out.ro (by simp) (by have e1:=HFW.out; have e2:=HLN.out; omega)).mono ?_
      rintro e w10 ⟨rfl,hr10,hg10⟩;have hb10:Below n0 w w10:=(HB5.out.trans (HVP.out.be.mono (by have:=HM5.out.lt; omega))).grown hg10 (by have e1:=HVP.out.tb.lt; have e2:=HVP.out.lt; have e3:=HM5.out.lt; omega) (fun r e=>by have e1:=(Xbp HVP.out.ro r e).1; have e3:=HM5.out.lt; omega)
      obtain ⟨A9,c9,e9,hs9⟩:=HpAt.of_row hr10
      injection e9 with e91 e92 e93
      subst e91;subst e93;have HE9:Hid (out.length+1=(out ++ [h]).reverse.length):=e92;have HS9:=Lib.hid hs9;have HB10:=Lib.hid hb10;clear hr10 hg10 hb10 hs9 e92 HVP HXP x0 t0 t1 t2 t3 f0 d1 d2;go_wp2;go_ret2;refine ⟨by rw[hn0]; exact HB10.out,?_⟩
      rw[HBD.out];exact ⟨(out ++ [h]).reverse,A8,c8,HEND.out,by rw[←HE9.out]; rfl,HS9.out⟩
     ·have d2:(x.time == q.ready)=false:=by simpa using hr
      have HNQ:Hid (out ++ [h] = [] ∨ ¬ (x.node=q.src∧x.time=q.ready)):=.inr (fun e=>hr e.2);clear hs hr;have HBN:Hid (Below ((((w8.setCell ⟨TB,0,none⟩ (.int .i64 x.node)).setCell ⟨TB,1,none⟩ (.int .i64 x.frm)).setCell ⟨TB,2,none⟩ (.int .i64 x.til)).setCell ⟨TB,3,none⟩ (.int .i64 x.time)).heap.size ((((w8.setCell ⟨TB,0,none⟩ (.int .i64 x.node)).setCell ⟨TB,1,none⟩ (.int .i64 x.frm)).setCell ⟨TB,2,none⟩ (.int .i64 x.til)).setCell ⟨TB,3,none⟩ (.int .i64 x.time)) (((((w8.setCell ⟨TB,0,none⟩ (.int .i64 x.node)).setCell ⟨TB,1,none⟩ (.int .i64 x.frm)).setCell ⟨TB,2,none⟩ (.int .i64 x.til)).setCell ⟨TB,3,none⟩ (.int .i64 x.time)).alloc (.cells #[.int .i64 x.node,.int .i64 x.frm,.int .i64 x.til,.int .i64 x.time] 81))):=(Below.refl _ _).alloc (Nat.le_refl _) _;have HNW:Hid (EaV n0 GB LB w8.heap.size base w5 G q (.slice A L.length c) (out ++ [h]) x (.slice A8 (out.length+1) c8) (((((w8.setCell ⟨TB,0,none⟩ (.int .i64 x.node)).setCell ⟨TB,1,none⟩ (.int .i64 x.frm)).setCell ⟨TB,2,none⟩ (.int .i64 x.til)).setCell ⟨TB,3,none⟩ (.int .i64 x.time)).alloc (.cells #[.int .i64 x.node,.int .i64 x.frm,.int .i64 x.til,.int .i64 x.time] 81))):=⟨(HVP.out.below HBN.out).be,by have hz:((((w8.setCell ⟨TB,0,none⟩ (.int .i64 x.node)).setCell ⟨TB,1,none⟩ (.int .i64 x.frm)).setCell ⟨TB,2,none⟩ (.int .i64 x.til)).setCell ⟨TB,3,none⟩ (.int .i64 x.time)).heap.size=w8.heap.size:=(by simp); rw[←hz]; exact Bk.new _ _ _,(HVP.out.below HBN.out).ro,by have hz:((((w8.setCell ⟨TB,0,none⟩ (.int .i64 x.node)).setCell ⟨TB,1,none⟩ (.int .i64 x.frm)).setCell ⟨TB,2,none⟩ (.int .i64 x.til)).setCell ⟨TB,3,none⟩ (.int .i64 x.time)).heap.size=w8.heap.size:=(by simp); have e1:=HVP.out.tb.lt; have e2:=HVP.out.lt; omega⟩
      go_wp2;have hfw:=HFW.out;rw[List.length_append] at hfw;simp only[List.length_singleton] at hfw;go_roundw
      case rel=>exact ⟨out ++ [h],x,_,_,rfl,rfl,HNW.out,HNX.out,HNQ.out⟩
      case measure=>simp; omega
    ·have d1:(x.node == q.src)=false:=by simpa using hs
     have HNQ:Hid (out ++ [h] = [] ∨ ¬ (x.node=q.src∧x.time=q.ready)):=.inr (fun e=>hs e.1);clear hs;have HBN:Hid (Below ((((w8.setCell ⟨TB,0,none⟩ (.int .i64 x.node)).setCell ⟨TB,1,none⟩ (.int .i64 x.frm)).setCell ⟨TB,2,none⟩ (.int .i64 x.til)).setCell ⟨TB,3,none⟩ (.int .i64 x.time)).heap.size ((((w8.setCell ⟨TB,0,none⟩ (.int .i64 x.node)).setCell ⟨TB,1,none⟩ (.int .i64 x.frm)).setCell ⟨TB,2,none⟩ (.int .i64 x.til)).setCell ⟨TB,3,none⟩ (.int .i64 x.time)) (((((w8.setCell ⟨TB,0,none⟩ (.int .i64 x.node)).setCell ⟨TB,1,none⟩ (.int .i64 x.frm)).setCell ⟨TB,2,none⟩ (.int .i64 x.til)).setCell ⟨TB,3,none⟩ (.int .i64 x.time)).alloc (.cells #[.int .i64 x.node,.int .i64 x.frm,.int .i64 x.til,.int .i64 x.time] 81))):=(Below.refl _ _).alloc (Nat.le_refl _) _;have HNW:Hid (EaV n0 GB LB w8.heap.size base w5 G q (.slice A L.length c) (out ++ [h]) x (.slice A8 (out.length+1) c8) (((((w8.setCell ⟨TB,0,none⟩ (.int .i64 x.node)).setCell ⟨TB,1,none⟩ (.int .i64 x.frm)).setCell ⟨TB,2,none⟩ (.int .i64 x.til)).setCell ⟨TB,3,none⟩ (.int .i64 x.time)).alloc (.cells #[.int .i64 x.node,.int .i64 x.frm,.int .i64 x.til,.int .i64 x.time] 81))):=⟨(HVP.out.below HBN.out).be,by have hz:((((w8.setCell ⟨TB,0,none⟩ (.int .i64 x.node)).setCell ⟨TB,1,none⟩ (.int .i64 x.frm)).setCell ⟨TB,2,none⟩ (.int .i64 x.til)).setCell ⟨TB,3,none⟩ (.int .i64 x.time)).heap.size=w8.heap.size:=(by simp); rw[←hz]; exact Bk.new _ _ _,(HVP.out.below HBN.out).ro,by have hz:((((w8.setCell ⟨TB,0,none⟩ (.int .i64 x.node)).setCell ⟨TB,1,none⟩ (.int .i64 x.frm)).setCell ⟨TB,2,none⟩ (.int .i64 x.til)).setCell ⟨TB,3,none⟩ (.int .i64 x.time)).heap.size=w8.heap.size:=(by simp); have e1:=HVP.out.tb.lt; have e2:=HVP.out.lt; omega⟩
     go_wp2;have hfw:=HFW.out;rw[List.length_append] at hfw;simp only[List.length_singleton] at hfw;go_roundw
     case rel=>exact ⟨out ++ [h],x,_,_,rfl,rfl,HNW.out,HNX.out,HNQ.out⟩
     case measure=>simp; omega
end Go.Proofs.YtebkgbmijocdjaaGreat.Tp
