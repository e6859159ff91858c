/- A part of the proof for the ledger. No condition beyond those that each theorem states. -/
import Derived.Test.YtebkgbmijocdjaaGreatZ27
set_option maxHeartbeats 32000000
set_option maxRecDepth 100000
set_option linter.unusedVariables false
set_option linter.unusedSimpArgs false
namespace Go.Proofs.YtebkgbmijocdjaaGreat.Tp
open Go Go.RowKit
attribute [local go_sem] Oper.semAt_some
theorem Xk4 (to_:Lab):∀(a b:List (Lab × Hop)),befM to_ (a ++ b)=match befM to_ a with | some h=>some h | none=>befM to_ b
 | [],b=>rfl
 | y :: a,b=>by
   rw[List.cons_append,befM,befM]
   split
   ·rfl
   ·exact Xk4 to_ a b
theorem Xk5 (g:Grf)(to_:Lab):∀(a b:List Lab),befF g to_ (a ++ b)=match befF g to_ a with | some h=>some h | none=>befF g to_ b
 | [],b=>rfl
 | y :: a,b=>by
   rw[List.cons_append,befF,befF];cases befM to_ (Xag g y) with
   | some h=>rfl
   | none=>exact Xk5 g to_ a b
theorem Xp0 {to_:Lab}{pre l:List (Lab × Hop)}{y:Lab × Hop}(hp:pre ++ [y] <+: l)(h0:befM to_ pre=none)(h1:same y.1 to_=true∧y.1.time=to_.time):befM to_ l=some y.2:=by
 obtain ⟨r,rfl⟩:=hp;rw[List.append_assoc,Xk4,h0];simp only[List.singleton_append,befM];rw[if_pos (by simp[h1.1,h1.2])]
theorem Xlt {to_:Lab}{pre:List (Lab × Hop)}{y:Lab × Hop}(h0:befM to_ pre=none)(h1:¬ (same y.1 to_=true∧y.1.time=to_.time)):befM to_ (pre ++ [y])=none:=by
 rw[Xk4,h0];simp only[befM];rw[if_neg];simpa using h1
theorem Xp1 {g:Grf}{to_ x:Lab}{h:Hop}{L:List Lab}{k:Nat}(h0:befF g to_ (L.take k)=none)(hx:L[k]? = some x)(h1:befM to_ (Xag g x)=some h):befF g to_ L=some (x,h):=by
 have hL:L=L.take k ++ (x :: L.drop (k+1)):=by
  obtain ⟨hk,he⟩:=List.getElem?_eq_some_iff.1 hx
  conv=>lhs; rw[←List.take_append_drop k L,List.drop_eq_getElem_cons hk,he]
 rw[hL,Xk5,h0];simp only[befF,h1]
theorem Xqy {g:Grf}{to_ x:Lab}{L:List Lab}{k:Nat}(h0:befF g to_ (L.take k)=none)(hx:L[k]? = some x)(h1:befM to_ (Xag g x)=none):befF g to_ (L.take (k+1))=none:=by
 rw[take_snoc hx,Xk5,h0];simp only[befF,h1]
def befV:Option (Lab × Hop)→Value
 | none => .tuple #[.agg #[.int .i64 0,.int .i64 0,.int .i64 0,.int .i64 0],.agg #[.int .i64 0,.int .i64 0,.int .i64 0,.int .i64 0],.bool false]
 | some (x,h) => .tuple #[.agg #[.int .i64 x.node,.int .i64 x.frm,.int .i64 x.til,.int .i64 x.time],.agg #[.int .i64 h.ct,.int .i64 h.beg,.int .i64 h.fin,.int .i64 h.arr],.bool true]
structure BeV (n0 G LB GB:Nat)(w:World)(to_:Lab)(sl:Value)(W:World):Prop where
 t:Bk W n0 81 (lbA to_)
 x:Bk W (n0+1) 81 #[.int .i64 0,.int .i64 0,.int .i64 0,.int .i64 0]
 h:Bk W (n0+2) 41 #[.int .i64 0,.int .i64 0,.int .i64 0,.int .i64 0]
 f:Bk W (n0+3) 4 #[.bool false]
 l:Bk W LB 57 #[sl]
 g:Bk W GB 74 #[.pointer (some ⟨G,0,none⟩)]
 lt:LB<n0∧GB<n0
 be:Below n0 w W
section
variable {n0 G LB GB:Nat} {w W:World} {to_:Lab} {sl:Value}
theorem BeV.size (h:BeV n0 G LB GB w to_ sl W):n0+4≤W.heap.size:=by have:=h.f.lt; omega
theorem BeV.below {W':World}(h:BeV n0 G LB GB w to_ sl W)(hb:Below W.heap.size W W'):BeV n0 G LB GB w to_ sl W' :=
 ⟨h.t.below hb h.t.lt,h.x.below hb h.x.lt,h.h.below hb h.h.lt,h.f.below hb h.f.lt,h.l.below hb h.l.lt,h.g.below hb h.g.lt,h.lt,h.be.trans (hb.mono (by have:=h.size; omega))⟩
theorem BeV.owned {B:Nat}{W':World}{row:Option Nat}(hB:n0+4≤B)(hn:n0≤w.heap.size)(h:BeV n0 G LB GB w to_ sl W)(hg:W.grownBy W' row)(hr:∀r,row=some r→B≤r ∧ ∃o:Obj,W.heap[r]? = some o∧o.isCells=false):BeV n0 G LB GB w to_ sl W' :=
 ⟨Xa9 (β:=Unit) B _ _ _ () _ _ row h.t hg hr,Xa9 (β:=Unit) B _ _ _ () _ _ row h.x hg hr,Xa9 (β:=Unit) B _ _ _ () _ _ row h.h hg hr,Xa9 (β:=Unit) B _ _ _ () _ _ row h.f hg hr,Xa9 (β:=Unit) B _ _ _ () _ _ row h.l hg hr,Xa9 (β:=Unit) B _ _ _ () _ _ row h.g hg hr,h.lt,ownFrom_below (β:=Unit) hn (by omega) () _ _ row h.be hg hr⟩
theorem BeV.blind {B i:Nat}{u:Value}(hB:n0+4≤B)(h:BeV n0 G LB GB w to_ sl W):BeV n0 G LB GB w to_ sl (W.setCell ⟨B,i,none⟩ u):=by
 have hl:=h.lt;exact ⟨h.t.other (p:=⟨B,i,none⟩) (by show n0 ≠ B; omega) _,h.x.other (p:=⟨B,i,none⟩) (by show n0+1 ≠ B; omega) _,h.h.other (p:=⟨B,i,none⟩) (by show n0+2 ≠ B; omega) _,h.f.other (p:=⟨B,i,none⟩) (by show n0+3 ≠ B; omega) _,h.l.other (p:=⟨B,i,none⟩) (by show LB ≠ B; omega) _,h.g.other (p:=⟨B,i,none⟩) (by show GB ≠ B; omega) _,h.lt,h.be.setCell (p:=⟨B,i,none⟩) (by show n0≤B; omega) _⟩
end
def BeX (n0:Nat)(w:World)(x:Lab)(h:Hop)(W:World):Prop:=Bk W (n0+1) 81 #[.int .i64 x.node,.int .i64 x.frm,.int .i64 x.til,.int .i64 x.time] ∧ Bk W (n0+2) 41 #[.int .i64 h.ct,.int .i64 h.beg,.int .i64 h.fin,.int .i64 h.arr] ∧ Bk W (n0+3) 4 #[.bool true] ∧ Below n0 w W
theorem Xp (LB GB G:Nat)(t:Tbl)(q:Rq)(A:Option Addr)(cA:Nat)(L:List Lab)(to_:Lab)(w:World)(hg:GAt w G t q)(hlb:Bk w LB 57 #[.slice A L.length cA])(hgb:Bk w GB 74 #[.pointer (some ⟨G,0,none⟩)])(hA:SlAt lbE w A L)(hF:∀x ∈ L,Fine (grf t q) x)(hlen:L.length≤1000000) :
  Calls Tryz.prog 29 #[.agg #[.int .i64 to_.node,.int .i64 to_.frm,.int .i64 to_.til,.int .i64 to_.time],.pointer (some ⟨LB,0,none⟩),.pointer (some ⟨GB,0,none⟩)] w fun e w' => e = .returned (befV (befF (grf t q) to_ L))∧Below w.heap.size w w':=by
 have HG:=Lib.hid hg;have HA:=Lib.hid hA;have HF:=Lib.hid hF;obtain ⟨Aq,cq,Ac,cc,B,cb,H,ch,Ag,cg,Ar,cr,Ad,cd,hbk,hin⟩:=hg;have HTOK:=Lib.hid hin.tok;have HQOK:=Lib.hid hin.qok;have HBE:Hid (Below w.heap.size w ((((w.alloc (.cells (lbA to_) 81)).alloc (.cells #[.int .i64 0,.int .i64 0,.int .i64 0,.int .i64 0] 81)).alloc (.cells #[.int .i64 0,.int .i64 0,.int .i64 0,.int .i64 0] 41)).alloc (.cells #[.bool false] 4))):=((((Below.refl _ _).alloc (Nat.le_refl _) _).alloc (by simp) _).alloc (by simp; omega) _).alloc (by simp; omega) _
 have HV0:Hid (BeV w.heap.size G LB GB w to_ (.slice A L.length cA) ((((w.alloc (.cells (lbA to_) 81)).alloc (.cells #[.int .i64 0,.int .i64 0,.int .i64 0,.int .i64 0] 81)).alloc (.cells #[.int .i64 0,.int .i64 0,.int .i64 0,.int .i64 0] 41)).alloc (.cells #[.bool false] 4))):=by
  refine ⟨(((Bk.new w _ _).alloc _).alloc _).alloc _,?_,?_,?_,hlb.below HBE.out hlb.lt,hgb.below HBE.out hgb.lt,⟨hlb.lt,hgb.lt⟩,HBE.out⟩
  ·have h:=Bk.new (w.alloc (.cells (lbA to_) 81)) 81 #[.int .i64 0,.int .i64 0,.int .i64 0,.int .i64 0];rw[World.size_alloc] at h;exact (h.alloc _).alloc _
  ·have h:=Bk.new ((w.alloc (.cells (lbA to_) 81)).alloc (.cells #[.int .i64 0,.int .i64 0,.int .i64 0,.int .i64 0] 81)) 41 #[.int .i64 0,.int .i64 0,.int .i64 0,.int .i64 0];rw[World.size_alloc,World.size_alloc] at h;exact h.alloc _
  ·have h:=Bk.new (((w.alloc (.cells (lbA to_) 81)).alloc (.cells #[.int .i64 0,.int .i64 0,.int .i64 0,.int .i64 0] 81)).alloc (.cells #[.int .i64 0,.int .i64 0,.int .i64 0,.int .i64 0] 41)) 4 #[.bool false]
   rwa [World.size_alloc,World.size_alloc,World.size_alloc] at h
 have l0:=HV0.out.l.n0;clear hbk hin hA hF hlb hgb;refine (callsIn_wide (n:=8)).1 ?_;refine callsIn_of_wp_marks Tryz.func29 rfl trivial ?_ rfl;simp only[Tryz.ntmps29,List.size_toArray,List.length_cons,List.length_nil,Nat.reduceAdd,Nat.reduceSub,Array.replicate_succ,Array.replicate_zero,List.push_toArray,List.append_toArray,List.nil_append,List.cons_append]
 gi_wp2_with fail
 clear l0;generalize ((((w.alloc (.cells (lbA to_) 81)).alloc (.cells #[.int .i64 0,.int .i64 0,.int .i64 0,.int .i64 0] 81)).alloc (.cells #[.int .i64 0,.int .i64 0,.int .i64 0,.int .i64 0] 41)).alloc (.cells #[.bool false] 4))=w1 at HBE HV0 ⊢;generalize hn0:w.heap.size=n0 at HBE HV0 ⊢;rw[show n0+1+1+1=n0+3 from rfl,show n0+1+1=n0+2 from rfl];refine wpIn_loop_ghost_k (fun m a' w' => ∃(u8 u13 u14 u15 u16 u17 u18 u35:Value) (ds:List Nat) (k:Nat),a' = { tmps := #[.agg #[.int .i64 to_.node,.int .i64 to_.frm,.int .i64 to_.til,.int .i64 to_.time],.pointer (some ⟨LB,0,none⟩),.pointer (some ⟨GB,0,none⟩),.pointer (some ⟨n0,0,none⟩),.pointer (some ⟨n0+1,0,none⟩),.pointer (some ⟨n0+2,0,none⟩),.pointer (some ⟨n0+3,0,none⟩),undef,u8,undef,.slice A L.length cA,.int .i64 (L.length:Int),.int .i64 (k:Int),u13,u14,u15,u16,u17,u18,undef,undef,undef,undef,undef,undef,undef,undef,undef,undef,undef,undef,undef,undef,undef,undef,u35,undef,undef],defers:=mkD ds } ∧ Xa5 w' ds∧(∀D ∈ ds,n0≤D)∧k≤L.length∧befF (grf t q) to_ (L.take k)=none∧BeV n0 G LB GB w to_ (.slice A L.length cA) w' ∧ m+k=L.length) L.length ?start ?round
 case start=>exact ⟨_,_,_,_,_,_,_,_, [],0,rfl,⟨List.nodup_nil,fun D hD=>by simp at hD⟩,fun D hD=>by simp at hD,Nat.zero_le _,rfl,HV0.out,rfl⟩
 case round =>
  rintro m a' w2 ⟨u8,u13,u14,u15,u16,u17,u18,u35,ds,k,rfl,hmk,hds,hkl,hbf,hv,hm⟩ Jg K hJ hK;have HMK:=Lib.hid hmk;have HDS:=Lib.hid hds;have HBF:=Lib.hid hbf;have HV:=Lib.hid hv;have HM:=Lib.hid hm;have HK:=Lib.hid hK;have HJ:=Lib.hid hJ;clear hmk hds hbf hv hm hJ hK HV0
  by_cases hlt:k<L.length
  ·obtain ⟨x,hx⟩:∃x,L[k]? = some x:=⟨_,List.getElem?_eq_getElem hlt⟩;have HXK:=Lib.hid hx;have HFX:Hid (Fine (grf t q) x):=HF.out x (List.mem_of_getElem? hx);obtain ⟨b2,o2,rfl,hs⟩:=(HA.out.below (by rw[hn0]; exact HV.out.be)).one (by omega)
   have hrg:w2.rangeAt b2 (o2+k * 4) (lbE.f x):=hs k x hx;obtain ⟨c0,c1,c2,c3⟩:=Tp.rgLb hrg;have hk0:(0:Int)≤(k:Int):=by omega
   have hk1:(k:Int)<(L.length:Int):=by omega
   have HBX:Hid (Below w2.heap.size w2 (w2.alloc (.cells #[.int .i64 x.node,.int .i64 x.frm,.int .i64 x.til,.int .i64 x.time] 81))):=(Below.refl _ _).alloc (Nat.le_refl _) _;have HX2:Hid (Bk (w2.alloc (.cells #[.int .i64 x.node,.int .i64 x.frm,.int .i64 x.til,.int .i64 x.time] 81)) w2.heap.size 81 (lbA x)):=Bk.new _ _ _;have HV2:=Lib.hid (HV.out.below HBX.out);have HMK2:=Lib.hid (HMK.out.below HBX.out);have HXZ:Hid (n0+4≤w2.heap.size∧w2.heap.size<(w2.alloc (.cells #[.int .i64 x.node,.int .i64 x.frm,.int .i64 x.til,.int .i64 x.time] 81)).heap.size):=⟨HV.out.size,HX2.out.lt⟩;have y0:=HV2.out.g.n0;obtain ⟨x0,x1,x2,x3⟩:=HX2.out.c4;clear hx hs hrg HV HMK HBX
   gi_wp2_with fail
   generalize (w2.alloc (.cells #[.int .i64 x.node,.int .i64 x.frm,.int .i64 x.til,.int .i64 x.time] 81))=w9 at HX2 HV2 HMK2 HXZ y0 x0 x1 x2 x3 ⊢;generalize w2.heap.size=XB at HX2 HXZ x0 x1 x2 x3 ⊢;refine ⟨trivial,?_⟩;refine (Xjg _ G x w9).mono ?_;rintro e w10 ⟨rfl,rfl⟩;obtain ⟨hbG,hbL,hbB,hbS⟩:=Xmg w9 G x;have HVP:=Lib.hid (HV2.out.below hbB);have HXP:=Lib.hid (HX2.out.below hbB HX2.out.lt);have HMKP:=Lib.hid (HMK2.out.below hbB);have HPS:Hid ((mvW w9 G x).heap.size=w9.heap.size+2∧n0+4≤w9.heap.size∧XB<w9.heap.size):=⟨hbS,HV2.out.size,HXZ.out.2⟩;have HBG:=Lib.hid hbG;have HBL:=Lib.hid hbL;clear hbG hbL hbB hbS HV2 HMK2 HX2 y0 x0 x1 x2 x3 c0 c1 c2 c3;generalize hwP:mvW w9 G x=wP at HVP HXP HMKP HPS HBG HBL ⊢;clear hwP;have HDL2:Hid (∀D ∈ ds,D<wP.heap.size):=HMKP.out.lt
   gi_wp2_with fail
   refine Xdm rfl (by omega) (gf:=72) (lb := #[.pointer (some ⟨w9.heap.size,0,none⟩),.pointer (some ⟨w9.heap.size+1,0,none⟩)]) rfl trivial (enters_of Tryz.func72 (by kernel_rfl) rfl)
    (Xex _ (by omega) w9.heap.size (w9.heap.size+1) G t q x w wP (by rw[hn0]; exact HVP.out.be) HBG.out HBL.out HG.out (Xmt HTOK.out HQOK.out HFX.out) (Xff HTOK.out x) (fun n r hr=>Xh1 HTOK.out HQOK.out n r hr)) KpM.trans (Xjs (by have:=HPS.out; omega)) (Below.refl _ _) (fun _=>rfl)
    (fun pre W=>(BeV n0 G LB GB w to_ (.slice (some ⟨b2,o2,none⟩) L.length cA) W∧Bk W XB 81 (lbA x))∧Xa5 W ds∧befM to_ pre=none)
    (fun pre W => ∃h,befM to_ (Xag (grf t q) x)=some h∧BeX n0 w x h W∧Xa5 W ds)
    (fun pre y b W=>((BeV n0 G LB GB w to_ (.slice (some ⟨b2,o2,none⟩) L.length cA) W∧Bk W XB 81 (lbA x))∧Xa5 W ds∧befM to_ pre=none)∧Bk W b 86 #[.int .i64 y.1.node,.int .i64 y.1.frm,.int .i64 y.1.til,.int .i64 y.1.time,.int .i64 y.2.ct,.int .i64 y.2.beg,.int .i64 y.2.fin,.int .i64 y.2.arr])
    ?oi ?ox ?o1 ?bl ?h0 ?a1 ?assign ?body ?done ?stop
   case ox =>
    rintro pre W W' row ⟨h,e,⟨k1,k2,k3,k4⟩,k5⟩ hg hr;exact ⟨h,e,⟨Xa9 (β:=Unit) _ _ _ _ () _ _ row k1 hg hr,Xa9 (β:=Unit) _ _ _ _ () _ _ row k2 hg hr,Xa9 (β:=Unit) _ _ _ _ () _ _ row k3 hg hr,ownFrom_below (β:=Unit) (by omega) (by have:=HPS.out; omega) () _ _ row k4 hg hr⟩,k5.owned HDL2.out hg hr⟩
   case oi =>
    rintro pre W W' row ⟨⟨k1,kx⟩,k2,k3⟩ hg hr;exact ⟨⟨k1.owned (B:=wP.heap.size) (by have:=HPS.out; omega) (by omega) hg hr,Xa9 (β:=Unit) _ _ _ _ () _ _ row kx hg hr⟩,k2.owned HDL2.out hg hr,k3⟩
   case o1 =>
    rintro s W W' row ⟨⟨⟨k1,kx⟩,k2,k3⟩,k4⟩ hg hr;exact ⟨⟨⟨k1.owned (B:=wP.heap.size) (by have:=HPS.out; omega) (by omega) hg hr,Xa9 (β:=Unit) _ _ _ _ () _ _ row kx hg hr⟩,k2.owned HDL2.out hg hr,k3⟩,Xa9 (β:=Unit) _ _ _ _ () _ _ row k4 hg hr⟩
   case bl =>
    rintro pre W o u ⟨⟨k1,kx⟩,k2,k3⟩;exact ⟨⟨k1.blind (by have:=HPS.out; omega),kx.other (p:=⟨wP.heap.size+2,o,none⟩) (by have:=HPS.out; show XB ≠ wP.heap.size+2; omega) _⟩,k2.other fun D hD=>by have:=HDL2.out D hD; omega,k3⟩
   case h0=>exact ⟨⟨HVP.out,HXP.out⟩,HMKP.out,rfl⟩
   case assign =>
    rintro l' pre y W ⟨⟨k1,kx⟩,k2,kn⟩ _ hbz hpl;have HB1:Hid (Bk (W.alloc (.cells #[.int .i64 y.1.node,.int .i64 y.1.frm,.int .i64 y.1.til,.int .i64 y.1.time,.int .i64 y.2.ct,.int .i64 y.2.beg,.int .i64 y.2.fin,.int .i64 y.2.arr] 86)) W.heap.size 86 #[.int .i64 y.1.node,.int .i64 y.1.frm,.int .i64 y.1.til,.int .i64 y.1.time,.int .i64 y.2.ct,.int .i64 y.2.beg,.int .i64 y.2.fin,.int .i64 y.2.arr]):=Bk.new _ _ _;have HBB:Hid (Below W.heap.size W (W.alloc (.cells #[.int .i64 y.1.node,.int .i64 y.1.frm,.int .i64 y.1.til,.int .i64 y.1.time,.int .i64 y.2.ct,.int .i64 y.2.beg,.int .i64 y.2.fin,.int .i64 y.2.arr] 86))):=(Below.refl _ _).alloc (Nat.le_refl _) _
    gi_wp2
    generalize W.alloc (.cells #[.int .i64 y.1.node,.int .i64 y.1.frm,.int .i64 y.1.til,.int .i64 y.1.time,.int .i64 y.2.ct,.int .i64 y.2.beg,.int .i64 y.2.fin,.int .i64 y.2.arr] 86)=W2 at HB1 HBB ⊢;refine ⟨Xaj HBB.out,KpM.of_below HBB.out (by have:=HPS.out; omega),?_⟩
    have HI:=Lib.hid (And.intro (And.intro (k1.below HBB.out) (kx.below HBB.out kx.lt)) (And.intro (k2.below HBB.out) kn));clear HBB k1 kx k2 kn hbz hpl;generalize W.heap.size=b at HB1 ⊢;refine ⟨b,?_,HI.out,HB1.out⟩
    rfl
   case body =>
    rintro l' pre y b W ⟨⟨⟨k1,kx⟩,k2,kn⟩,k3⟩ hsp hbz hpl;have HV:=Lib.hid k1;have HXB:=Lib.hid kx;have HMK:=Lib.hid k2;have HN:=Lib.hid kn;have HMB:=Lib.hid k3;have HSP:=Lib.hid hsp;have HSM:=Lib.hid (Xj6 y.1 to_ W);obtain ⟨m0,m1,m2,m3⟩:=k3.c4;obtain ⟨t0,t1,t2,t3⟩:=k1.t.c4;clear k1 kx k2 kn k3 hsp hbz hpl
    gi_wp2_with fail
    clear m0 m1 m2 m3 t0 t1 t2 t3;refine ⟨trivial,?_⟩;refine (callsIn_wide.2 HSM.out).mono ?_;rintro e W5 ⟨rfl,hb5⟩;have HB5:=Lib.hid hb5;clear hb5 HSM;have m3:W5.cell? ⟨b,3,none⟩=some (.int .i64 y.1.time):=(HMB.out.below HB5.out HMB.out.lt).cell 3;have t3:W5.cell? ⟨n0,3,none⟩=some (.int .i64 to_.time):=(HV.out.below HB5.out).t.cell 3;cases hs:same y.1 to_ with
    | false =>
      have HS:=Lib.hid hs;clear hs;have HE:Hid (befM to_ (pre ++ [y])=none):=Xlt HN.out (fun h=>by rw[HS.out] at h; cases h.1)
      gi_wp2
      have hst:KeepsOthers W W5∧KpM w.heap.size w9.heap.size (w9.heap.size+1) W W5∧((BeV n0 G LB GB w to_ (.slice (some ⟨b2,o2,none⟩) L.length cA) W5∧Bk W5 XB 81 (lbA x))∧Xa5 W5 ds∧befM to_ (pre ++ [y])=none) :=
       ⟨Xaj HB5.out,KpM.of_below HB5.out (by have:=HV.out.size; omega),⟨HV.out.below HB5.out,HXB.out.below HB5.out HXB.out.lt⟩,HMK.out.below HB5.out,HE.out⟩
      exact hst
    | true =>
      have HS:=Lib.hid hs;clear hs
      by_cases ht:y.1.time=to_.time
      ·have d1:(y.1.time == to_.time)=true:=by simpa using ht
       have HFD:Hid (befM to_ (Xag (grf t q) x)=some y.2):=Xp0 HSP.out HN.out ⟨HS.out,ht⟩;clear ht
       gi_wp2_with fail
       have HSB:Hid (∀w',Bk w' XB 81 (lbA x)→Bk w' b 86 #[.int .i64 y.1.node,.int .i64 y.1.frm,.int .i64 y.1.til,.int .i64 y.1.time,.int .i64 y.2.ct,.int .i64 y.2.beg,.int .i64 y.2.fin,.int .i64 y.2.arr] → ((w'.cell? ⟨XB,0,none⟩=some (.int .i64 x.node)∧w'.cell? ⟨XB,1,none⟩=some (.int .i64 x.frm)∧w'.cell? ⟨XB,2,none⟩=some (.int .i64 x.til)∧w'.cell? ⟨XB,3,none⟩=some (.int .i64 x.time))∧w'.cell? ⟨b,4,none⟩=some (.int .i64 y.2.ct)∧w'.cell? ⟨b,5,none⟩=some (.int .i64 y.2.beg)∧w'.cell? ⟨b,6,none⟩=some (.int .i64 y.2.fin)∧w'.cell? ⟨b,7,none⟩=some (.int .i64 y.2.arr))):=fun w' h1 h2=>⟨⟨h1.cell 0,h1.cell 1,h1.cell 2,h1.cell 3⟩,h2.cell 4,h2.cell 5,h2.cell 6,h2.cell 7⟩;have HB6:Hid (Below W.heap.size W W5.drew):=HB5.out.drew;have HV6:=Lib.hid (HV.out.below HB6.out);have HXB6:=Lib.hid (HXB.out.below HB6.out HXB.out.lt);have HMB6:=Lib.hid (HMB.out.below HB6.out HMB.out.lt);have HMK6:=Lib.hid (HMK.out.below HB6.out);clear m3 t3 d1;refine Xcs (S:=fun w' => ((w'.cell? ⟨XB,0,none⟩=some (.int .i64 x.node)∧w'.cell? ⟨XB,1,none⟩=some (.int .i64 x.frm)∧w'.cell? ⟨XB,2,none⟩=some (.int .i64 x.til)∧w'.cell? ⟨XB,3,none⟩=some (.int .i64 x.time))∧w'.cell? ⟨b,4,none⟩=some (.int .i64 y.2.ct)∧w'.cell? ⟨b,5,none⟩=some (.int .i64 y.2.beg)∧w'.cell? ⟨b,6,none⟩=some (.int .i64 y.2.fin)∧w'.cell? ⟨b,7,none⟩=some (.int .i64 y.2.arr))) (by kernel_rfl) (by kernel_rfl) (HSB.out _ HXB6.out HMB6.out) (fun hHeld=>?_)
       generalize hV0:W5.drew=V0 at HB6 HV6 HXB6 HMB6 HMK6 hHeld ⊢;clear hV0;refine tkL 0 (.agg #[.int .i64 x.node,.int .i64 x.frm,.int .i64 x.til,.int .i64 x.time]) ?_;refine tkL 1 _ ?_;refine tkL 2 (.agg #[.int .i64 y.2.ct,.int .i64 y.2.beg,.int .i64 y.2.fin,.int .i64 y.2.arr]) ?_;have hn:XB ≠ n0+1∧XB ≠ n0+2∧XB ≠ n0+3:=by have:=HXZ.out; omega
       have hbn:∀ {g:Nat} {u:TypeId} {cs:Array Value},u ≠ 86→Bk V0 g u cs→b ≠ g:=fun {g u cs} hu hb e=>by
        subst e;have h:=(show V0.heap[b]? = _ from hb).symm.trans HMB6.out;simp at h;exact hu h.2
       have hb1:=hbn (by decide) HV6.out.x
       have hb2:=hbn (by decide) HV6.out.h
       have hb3:=hbn (by decide) HV6.out.f
       obtain ⟨a1,a2,a3⟩:=put4 HV6.out.x HV6.out.be (by omega) (.int .i64 x.node) (.int .i64 x.frm) (.int .i64 x.til) (.int .i64 x.time)
       have HX1:=Lib.hid a1;have HE1:=Lib.hid a2;have HH1:=Lib.hid (a3 (by omega) HV6.out.h)
       have HF1:=Lib.hid (a3 (by omega) HV6.out.f)
       have HXB1:=Lib.hid (a3 hn.1 HXB6.out);have HMB1:=Lib.hid (a3 hb1 HMB6.out);have hmk:∀ {V:World} {g i:Nat} {u:Value},Xa5 V ds→(∀D ∈ ds,D ≠ g)→Xa5 (V.setCell ⟨g,i,none⟩ u) ds:=fun {V g i u} h hg=>⟨h.1,fun D hD=>(Below.heap_setCell V ⟨g,i,none⟩ u D (hg D hD)).trans (h.2 D hD)⟩;have hne:∀ {g:Nat} {t:TypeId} {cs:Array Value},Bk V0 g t cs → ∀D ∈ ds,D ≠ g:=fun {g t cs} hb D hD e=>by
        subst e;have h1:=HMK6.out.2 D hD;rw[show V0.heap[D]? = _ from hb] at h1;cases h1
       have e1:=hne HV6.out.x;have e2:=hne HV6.out.h;have e3:=hne HV6.out.f;have HMK1:Hid (Xa5 ((((V0.setCell ⟨n0+1,0,none⟩ (.int .i64 x.node)).setCell ⟨n0+1,1,none⟩ (.int .i64 x.frm)).setCell ⟨n0+1,2,none⟩ (.int .i64 x.til)).setCell ⟨n0+1,3,none⟩ (.int .i64 x.time)) ds):=hmk (hmk (hmk (hmk HMK6.out e1) e1) e1) e1;have HKO1:Hid (KeepsOthers W ((((V0.setCell ⟨n0+1,0,none⟩ (.int .i64 x.node)).setCell ⟨n0+1,1,none⟩ (.int .i64 x.frm)).setCell ⟨n0+1,2,none⟩ (.int .i64 x.til)).setCell ⟨n0+1,3,none⟩ (.int .i64 x.time))):=((((Xaj HB6.out).trans (KeepsOthers.setCell _ _ _)).trans (KeepsOthers.setCell _ _ _)).trans (KeepsOthers.setCell _ _ _)).trans (KeepsOthers.setCell _ _ _);have r0:=HV6.out.x.n0;have f0:=HV6.out.x.free 0;have r1:=HV6.out.x.n1;have f1:=HV6.out.x.free 1;have r2:=HV6.out.x.n2;have f2:=HV6.out.x.free 2;have r3:=HV6.out.x.n3;have f3:=HV6.out.x.free 3;clear a1 a2 a3;refine Xat (i:=3) rfl (by kernel_rfl) (by rfl) (fun K hK=>?_)
       go_simp;refine hK _ _ (HSB.out _ HXB1.out HMB1.out) (fun hHeld=>?_);clear hK K r0 r1 r2 r3 f0 f1 f2 f3
       try simp only[PU]
       generalize ((((V0.setCell ⟨n0+1,0,none⟩ (.int .i64 x.node)).setCell ⟨n0+1,1,none⟩ (.int .i64 x.frm)).setCell ⟨n0+1,2,none⟩ (.int .i64 x.til)).setCell ⟨n0+1,3,none⟩ (.int .i64 x.time))=V1 at HX1 HE1 HH1 HF1 HXB1 HMB1 HMK1 HKO1 hHeld ⊢;obtain ⟨a1,a2,a3⟩:=put4 HH1.out HE1.out (by omega) (.int .i64 y.2.ct) (.int .i64 y.2.beg) (.int .i64 y.2.fin) (.int .i64 y.2.arr)
       have HH2:=Lib.hid a1;have HE2:=Lib.hid a2;have HX2:=Lib.hid (a3 (by omega) HX1.out)
       have HF2:=Lib.hid (a3 (by omega) HF1.out)
       have HXB2:=Lib.hid (a3 hn.2.1 HXB1.out);have HMB2:=Lib.hid (a3 hb2 HMB1.out);have HMK2:Hid (Xa5 ((((V1.setCell ⟨n0+2,0,none⟩ (.int .i64 y.2.ct)).setCell ⟨n0+2,1,none⟩ (.int .i64 y.2.beg)).setCell ⟨n0+2,2,none⟩ (.int .i64 y.2.fin)).setCell ⟨n0+2,3,none⟩ (.int .i64 y.2.arr)) ds):=hmk (hmk (hmk (hmk HMK1.out e2) e2) e2) e2;have HKO2:Hid (KeepsOthers W ((((V1.setCell ⟨n0+2,0,none⟩ (.int .i64 y.2.ct)).setCell ⟨n0+2,1,none⟩ (.int .i64 y.2.beg)).setCell ⟨n0+2,2,none⟩ (.int .i64 y.2.fin)).setCell ⟨n0+2,3,none⟩ (.int .i64 y.2.arr))):=(((HKO1.out.trans (KeepsOthers.setCell _ _ _)).trans (KeepsOthers.setCell _ _ _)).trans (KeepsOthers.setCell _ _ _)).trans (KeepsOthers.setCell _ _ _);have r0:=HH1.out.n0;have f0:=HH1.out.free 0;have r1:=HH1.out.n1;have f1:=HH1.out.free 1;have r2:=HH1.out.n2;have f2:=HH1.out.free 2;have r3:=HH1.out.n3;have f3:=HH1.out.free 3;clear a1 a2 a3;refine Xat (i:=4) rfl (by kernel_rfl) (by rfl) (fun K hK=>?_)
       go_simp;refine hK _ _ (HSB.out _ HXB2.out HMB2.out) (fun hHeld=>?_);clear hK K r0 r1 r2 r3 f0 f1 f2 f3
       try simp only[PU]
       generalize ((((V1.setCell ⟨n0+2,0,none⟩ (.int .i64 y.2.ct)).setCell ⟨n0+2,1,none⟩ (.int .i64 y.2.beg)).setCell ⟨n0+2,2,none⟩ (.int .i64 y.2.fin)).setCell ⟨n0+2,3,none⟩ (.int .i64 y.2.arr))=V2 at HX2 HE2 HH2 HF2 HXB2 HMB2 HMK2 HKO2 hHeld ⊢;have r0:=HF2.out.n0;have f0:=HF2.out.free 0;refine Xat (i:=5) rfl (by kernel_rfl) (by rfl) (fun K hK=>?_)
       go_simp;refine hK _ _ (HSB.out _ (HXB2.out.other (p:=⟨n0+3,0,none⟩) hn.2.2 _) (HMB2.out.other (p:=⟨n0+3,0,none⟩) hb3 _)) (fun hHeld=>?_);clear hK K r0 f0 hHeld
       try simp only[PU]
       refine Xi6 (by kernel_rfl) ?_
       have HEX:Hid (KeepsOthers W (V2.setCell ⟨n0+3,0,none⟩ (.bool true)) ∧ ∃h,befM to_ (Xag (grf t q) x)=some h∧BeX n0 w x h (V2.setCell ⟨n0+3,0,none⟩ (.bool true))∧Xa5 (V2.setCell ⟨n0+3,0,none⟩ (.bool true)) ds) :=
        ⟨HKO2.out.trans (KeepsOthers.setCell _ _ _),y.2,HFD.out,⟨HX2.out.other (p:=⟨n0+3,0,none⟩) (by show n0+1 ≠ n0+3; omega) _,HH2.out.other (p:=⟨n0+3,0,none⟩) (by show n0+2 ≠ n0+3; omega) _,HF2.out.put 0 _,HE2.out.setCell (p:=⟨n0+3,0,none⟩) (by show n0≤n0+3; omega) _⟩,hmk HMK2.out e3⟩
       clear hmk hne e1 e2 e3 hn hbn hb1 hb2 hb3 HX2 HE2 HH2 HF2 HXB2 HMB2 HMK2 HKO2
       gi_wp2
       exact ⟨HEX.out.1,rfl,HEX.out.2⟩
      ·have d1:(y.1.time == to_.time)=false:=by simpa using ht
       have HT:=Lib.hid ht;clear ht;have HE:Hid (befM to_ (pre ++ [y])=none):=Xlt HN.out (fun h=>HT.out h.2)
       gi_wp2
       have hst:KeepsOthers W W5∧KpM w.heap.size w9.heap.size (w9.heap.size+1) W W5∧((BeV n0 G LB GB w to_ (.slice (some ⟨b2,o2,none⟩) L.length cA) W5∧Bk W5 XB 81 (lbA x))∧Xa5 W5 ds∧befM to_ (pre ++ [y])=none) :=
        ⟨Xaj HB5.out,KpM.of_below HB5.out (by have:=HV.out.size; omega),⟨HV.out.below HB5.out,HXB.out.below HB5.out HXB.out.lt⟩,HMK.out.below HB5.out,HE.out⟩
       exact hst
   case done =>
    rintro D xs W hD rfl ⟨⟨k1,kx⟩,k2,kn⟩ hDD
    (try simp only[Exit.inBlock,Exit.then])
    have hmm:=HM.out;have HV10:=Lib.hid k1;have HBF10:Hid (befF (grf t q) to_ (L.take (k+1))=none):=Xqy HBF.out HXK.out kn;have HDS10:Hid (∀E ∈ D :: ds,n0≤E):=by
     intro E hE;rcases List.mem_cons.1 hE with e | e
     ·rw[e]; have:=HPS.out; omega
     ·exact HDS.out E e
    have HMK10:Hid (Xa5 W (D :: ds)):=k2.cons hDD (fun h=>by have:=HDL2.out D h; omega)
    clear k1 kx k2 kn hDD
    gi_wp2
    rw[show ((k:Int)+1)=((k+1:Nat):Int) by omega]
    exact HK.out _ _ ⟨m - 1,by omega,HJ.out _ _ _ ⟨_,_,_,_,_,_,_,_,D :: ds,k+1,rfl,HMK10.out,HDS10.out,by omega,HBF10.out,HV10.out,by omega⟩⟩
   case stop =>
    rintro D pre W hD hpre ⟨h,hbm,⟨k1,k2,k3,k4⟩,k5⟩ hDD;have HFD:Hid (befF (grf t q) to_ L=some (x,h)):=Xp1 HBF.out HXK.out hbm;have hmk10:Xa5 W (D :: ds):=k5.cons hDD (fun h=>by have:=HDL2.out D h; omega)
    have hb10:Below n0 w (Xcf W (D :: ds)):=Xbx k4 fun E hE=>by
     rcases List.mem_cons.1 hE with e | e
     ·rw[e]; have:=HPS.out; omega
     ·exact HDS.out E e
    have c1:=Xc4 hmk10 k1;have c2:=Xc4 hmk10 k2;have c3:=Xc4 hmk10 k3;have HMK10:=Lib.hid hmk10;have HB10:=Lib.hid hb10;have C1:=Lib.hid c1;have C2:=Lib.hid c2;have C3:=Lib.hid c3;clear k1 k2 k3 k4 k5 hDD hmk10 hb10 c1 c2 c3 hbm
    gi_wp2
    obtain ⟨r0,r1,r2,r3⟩:=C1.out.c4;have s0:=C2.out.c4;have f0:=C3.out.n0;exact Xco (ds:=D :: ds) (v:=.tuple #[.agg #[.int .i64 x.node,.int .i64 x.frm,.int .i64 x.til,.int .i64 x.time],.agg #[.int .i64 h.ct,.int .i64 h.beg,.int .i64 h.fin,.int .i64 h.arr],.bool true]) HMK10.out (by simp[results,Tryz.results29,go_sem,r0,r1,r2,r3,s0,f0]) ⟨by rw[HFD.out]; rfl,by first | (rw[hn0]; exact HB10.out) | exact HB10.out⟩
  ·have hkk:k=L.length:=by omega
   subst hkk;have hF:befF (grf t q) to_ L=none:=by have h:=HBF.out; rwa [List.take_length] at h
   have HFN:=Lib.hid hF;clear hF;obtain ⟨r0,r1,r2,r3⟩:=HV.out.x.c4;have s0:=HV.out.h.c4;have f0:=HV.out.f.n0;have g0:=HV.out.x.f4;obtain ⟨k0,k1,k2,k3⟩:=HV.out.h.f4;have q0:=HV.out.f.free 0;obtain ⟨a1,a2,a3⟩:=put4 HV.out.x HV.out.be (by omega) (.int .i64 0) (.int .i64 0) (.int .i64 0) (.int .i64 0)
   obtain ⟨b1,b2,b3⟩:=put4 (a3 (by omega) HV.out.h) a2 (by omega) (.int .i64 0) (.int .i64 0) (.int .i64 0) (.int .i64 0)
   have hx:=(b3 (by omega) a1).other (p:=⟨n0+3,0,none⟩) (by show n0+1 ≠ n0+3; omega) (.bool false)
   have hh:=b1.other (p:=⟨n0+3,0,none⟩) (by show n0+2 ≠ n0+3; omega) (.bool false)
   have hf:=(b3 (by omega) (a3 (by omega) HV.out.f)).put 0 (.bool false)
   have hbe:=b2.setCell (p:=⟨n0+3,0,none⟩) (by show n0≤n0+3; omega) (.bool false)
   have hmk:Xa5 (((((((((w2.setCell ⟨n0+1,0,none⟩ (.int .i64 0)).setCell ⟨n0+1,1,none⟩ (.int .i64 0)).setCell ⟨n0+1,2,none⟩ (.int .i64 0)).setCell ⟨n0+1,3,none⟩ (.int .i64 0)).setCell ⟨n0+2,0,none⟩ (.int .i64 0)).setCell ⟨n0+2,1,none⟩ (.int .i64 0)).setCell ⟨n0+2,2,none⟩ (.int .i64 0)).setCell ⟨n0+2,3,none⟩ (.int .i64 0)).setCell ⟨n0+3,0,none⟩ (.bool false)) ds:=by
    refine ⟨HMK.out.1,fun D hD=>?_⟩;have h1:=HMK.out.2 D hD;have hne:∀ {g:Nat} {t:TypeId} {cs:Array Value},Bk w2 g t cs→D ≠ g:=fun {g t cs} hb e=>by
     subst e;rw[show w2.heap[D]? = _ from hb] at h1;cases h1
    have e1:=hne HV.out.x;have e2:=hne HV.out.h;have e3:=hne HV.out.f;have st:∀ {V:World} {g i:Nat} {u:Value},D ≠ g→V.heap[D]? = some (.deferred (some []))→(V.setCell ⟨g,i,none⟩ u).heap[D]? = some (.deferred (some [])):=fun {V g i u} h hv=>(Below.heap_setCell V ⟨g,i,none⟩ u D h).trans hv;exact st e3 (st e2 (st e2 (st e2 (st e2 (st e1 (st e1 (st e1 (st e1 h1))))))))
   have HX:=Lib.hid hx;have HH:=Lib.hid hh;have HFF:=Lib.hid hf;have HBB:=Lib.hid hbe;have HMK9:=Lib.hid hmk;clear a1 a2 a3 b1 b2 b3 hx hh hf hbe hmk
   gi_wp2
   clear r0 r1 r2 r3 s0 f0 g0 k0 k1 k2 k3 q0;generalize (((((((((w2.setCell ⟨n0+1,0,none⟩ (.int .i64 0)).setCell ⟨n0+1,1,none⟩ (.int .i64 0)).setCell ⟨n0+1,2,none⟩ (.int .i64 0)).setCell ⟨n0+1,3,none⟩ (.int .i64 0)).setCell ⟨n0+2,0,none⟩ (.int .i64 0)).setCell ⟨n0+2,1,none⟩ (.int .i64 0)).setCell ⟨n0+2,2,none⟩ (.int .i64 0)).setCell ⟨n0+2,3,none⟩ (.int .i64 0)).setCell ⟨n0+3,0,none⟩ (.bool false))=WF at HX HH HFF HBB HMK9 ⊢;have C1:=Lib.hid (Xc4 HMK9.out HX.out);have C2:=Lib.hid (Xc4 HMK9.out HH.out);have C3:=Lib.hid (Xc4 HMK9.out HFF.out);have hb10:Below n0 w (Xcf WF ds):=Xbx HBB.out HDS.out;obtain ⟨r0,r1,r2,r3⟩:=C1.out.c4;have s0:=C2.out.c4;have f0:=C3.out.n0;exact Xco (ds:=ds) (v:=befV none) HMK9.out (by unfold befV; simp[results,Tryz.results29,go_sem,r0,r1,r2,r3,s0,f0]) ⟨by rw[HFN.out],by first | (rw[hn0]; exact hb10) | exact hb10⟩
end Go.Proofs.YtebkgbmijocdjaaGreat.Tp
