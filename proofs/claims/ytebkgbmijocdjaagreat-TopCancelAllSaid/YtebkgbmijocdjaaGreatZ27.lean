/- A part of the proof for the ledger. No condition beyond those that each theorem states. -/
import Derived.Test.YtebkgbmijocdjaaGreatZ24
set_option maxHeartbeats 32000000
set_option maxRecDepth 100000
set_option linter.unusedVariables false
set_option linter.unusedSimpArgs false
namespace Go.Proofs.YtebkgbmijocdjaaGreat.Tp
open Go Go.RowKit
attribute [local go_sem] Oper.semAt_some
def dstT (dst:Int)(l:List (Lab × Hop)):List Int:=l.filterMap fun y=>if y.1.node=dst then some y.1.time else none
theorem Xr (g:Grf)(x:Lab)(L:List Lab):arrT g (L ++ [x])=arrT g L ++ dstT g.dst (Xag g x):=by
 unfold arrT dstT;rw[List.flatMap_append];simp
theorem Xqo (dst:Int)(l:List (Lab × Hop))(y:Lab × Hop):dstT dst (l ++ [y])=if y.1.node=dst then dstT dst l ++ [y.1.time] else dstT dst l:=by
 unfold dstT;rw[List.filterMap_append]
 split
 ·rename_i h; simp[h]
 ·rename_i h; simp[h]
structure ArV (n0 G:Nat)(w:World)(o:Option Int)(W:World):Prop where
 g:Bk W n0 74 #[.pointer (some ⟨G,0,none⟩)]
 b:Bk W (n0+1) 3 #[.int .i64 (o.getD 0)]
 s:Bk W (n0+2) 4 #[.bool o.isSome]
 be:Below n0 w W
section
variable {n0 G:Nat} {w W:World} {o:Option Int}
theorem ArV.size (h:ArV n0 G w o W):n0+3≤W.heap.size:=by have:=h.s.lt; omega
theorem ArV.below {W':World}(h:ArV n0 G w o W)(hb:Below W.heap.size W W'):ArV n0 G w o W' :=
 ⟨h.g.below hb h.g.lt,h.b.below hb h.b.lt,h.s.below hb h.s.lt,h.be.trans (hb.mono (by have:=h.size; omega))⟩
theorem ArV.owned {B:Nat}{W':World}{row:Option Nat}(hB:n0+3≤B)(hn:n0≤w.heap.size)(h:ArV n0 G w o W)(hg:W.grownBy W' row)(hr:∀r,row=some r→B≤r ∧ ∃o:Obj,W.heap[r]? = some o∧o.isCells=false):ArV n0 G w o W' :=
 ⟨Xa9 (β:=Unit) B _ _ _ () _ _ row h.g hg hr,Xa9 (β:=Unit) B _ _ _ () _ _ row h.b hg hr,Xa9 (β:=Unit) B _ _ _ () _ _ row h.s hg hr,ownFrom_below (β:=Unit) hn (by omega) () _ _ row h.be hg hr⟩
theorem ArV.blind {B i:Nat}{u:Value}(hB:n0+3≤B)(h:ArV n0 G w o W):ArV n0 G w o (W.setCell ⟨B,i,none⟩ u) :=
 ⟨h.g.other (p:=⟨B,i,none⟩) (by show n0 ≠ B; omega) _,h.b.other (p:=⟨B,i,none⟩) (by show n0+1 ≠ B; omega) _,h.s.other (p:=⟨B,i,none⟩) (by show n0+2 ≠ B; omega) _,h.be.setCell (p:=⟨B,i,none⟩) (by show n0≤B; omega) _⟩
theorem ArV.put (h:ArV n0 G w o W)(t:Int):ArV n0 G w (some t) ((W.setCell ⟨n0+1,0,none⟩ (.int .i64 t)).setCell ⟨n0+2,0,none⟩ (.bool true)) :=
 ⟨(h.g.other (p:=⟨n0+1,0,none⟩) (by show n0 ≠ n0+1; omega) _).other (p:=⟨n0+2,0,none⟩) (by show n0 ≠ n0+2; omega) _,(h.b.put 0 _).other (p:=⟨n0+2,0,none⟩) (by show n0+1 ≠ n0+2; omega) _,(h.s.other (p:=⟨n0+1,0,none⟩) (by show n0+2 ≠ n0+1; omega) _).put 0 _,
  (h.be.setCell (p:=⟨n0+1,0,none⟩) (by show n0≤n0+1; omega) _).setCell (p:=⟨n0+2,0,none⟩) (by show n0≤n0+2; omega) _⟩
theorem Xa5.put2 {ds:List Nat}(hm:Xa5 W ds)(h:ArV n0 G w o W)(u v:Value):Xa5 ((W.setCell ⟨n0+1,0,none⟩ u).setCell ⟨n0+2,0,none⟩ v) ds :=
 (hm.set h.b u).set (h.s.other (p:=⟨n0+1,0,none⟩) (by show n0+2 ≠ n0+1; omega) u) v
theorem ArV.kp {n₀ BG BL:Nat}(h:ArV n0 G w o W)(u v:Value)(hn:n₀ ≤ n0)(h1:n0+3≤BG)(h2:n0+3≤BL):KpM n₀ BG BL W ((W.setCell ⟨n0+1,0,none⟩ u).setCell ⟨n0+2,0,none⟩ v):=by
 have ot:∀ {k:Nat} {t:TypeId} {cs:Array Value},k ≠ n0+1→k ≠ n0+2→Bk W k t cs→Bk ((W.setCell ⟨n0+1,0,none⟩ u).setCell ⟨n0+2,0,none⟩ v) k t cs:=fun {k t cs} a b hb=>(hb.other (p:=⟨n0+1,0,none⟩) a _).other (p:=⟨n0+2,0,none⟩) b _;refine ⟨((Below.refl n₀ W).setCell (p:=⟨n0+1,0,none⟩) (by show n₀ ≤ n0+1; omega) _).setCell (p:=⟨n0+2,0,none⟩) (by show n₀ ≤ n0+2; omega) _,fun k cs t ht hk=>?_,fun k cs t hkk hk=>?_⟩
 ·have hne:t ≠ 3∧t ≠ 4:=by rcases ht with rfl | rfl | rfl <;> decide
  refine ot (fun e=>?_) (fun e=>?_) hk
  ·subst e;have:=(show W.heap[n0+1]? = _ from hk).symm.trans h.b;simp at this;exact hne.1 this.2
  ·subst e;have:=(show W.heap[n0+2]? = _ from hk).symm.trans h.s;simp at this;exact hne.2 this.2
 ·exact ot (by rcases hkk with rfl | rfl <;> omega) (by rcases hkk with rfl | rfl <;> omega) hk
end
theorem Xi (G:Nat)(t:Tbl)(q:Rq)(A:Option Addr)(cA:Nat)(L:List Lab)(w:World)(hg:GAt w G t q)(hA:SlAt lbE w A L)(hF:∀x ∈ L,Fine (grf t q) x)(hlen:L.length≤1000000) :
  Calls Tryz.prog 27 #[.pointer (some ⟨G,0,none⟩),.slice A L.length cA] w fun e w' => e = .returned (.tuple #[.int .i64 ((minO none (arrT (grf t q) L)).getD 0),.bool (minO none (arrT (grf t q) L)).isSome])∧Below w.heap.size w w':=by
 have HG:=Lib.hid hg;have HA:=Lib.hid hA;have HF:=Lib.hid hF;obtain ⟨Aq,cq,Ac,cc,B,cb,H,ch,Ag,cg,Ar,cr,Ad,cd,hbk,hin⟩:=hg;have HTOK:=Lib.hid hin.tok;have HQOK:=Lib.hid hin.qok;have HBE:Hid (Below w.heap.size w (((w.alloc (.cells #[.pointer (some ⟨G,0,none⟩)] 74)).alloc (.cells #[.int .i64 0] 3)).alloc (.cells #[.bool false] 4))):=(((Below.refl _ _).alloc (Nat.le_refl _) _).alloc (by simp) _).alloc (by simp; omega) _
 have HV0:Hid (ArV w.heap.size G w none (((w.alloc (.cells #[.pointer (some ⟨G,0,none⟩)] 74)).alloc (.cells #[.int .i64 0] 3)).alloc (.cells #[.bool false] 4))):=by
  refine ⟨((Bk.new w _ _).alloc _).alloc _,?_,?_,HBE.out⟩
  ·have h:=Bk.new (w.alloc (.cells #[.pointer (some ⟨G,0,none⟩)] 74)) 3 #[.int .i64 0];rw[World.size_alloc] at h;exact h.alloc _
  ·have h:=Bk.new ((w.alloc (.cells #[.pointer (some ⟨G,0,none⟩)] 74)).alloc (.cells #[.int .i64 0] 3)) 4 #[.bool false]
   rwa [World.size_alloc,World.size_alloc] at h
 have HGI:Hid (∀w',Below w.heap.size w w' → w'.cell? ⟨G,5,none⟩=some (.int .i64 q.dst)):=fun w' hb=>(hbk.below hb hbk.lt).cell 5;clear hbk hin hA hF;refine (callsIn_wide (n:=8)).1 ?_;refine callsIn_of_wp_marks Tryz.func27 rfl trivial ?_ rfl;simp only[Tryz.ntmps27,List.size_toArray,List.length_cons,List.length_nil,Nat.reduceAdd,Nat.reduceSub,Array.replicate_succ,Array.replicate_zero,List.push_toArray,List.append_toArray,List.nil_append,List.cons_append]
 gi_wp2_with fail
 generalize (((w.alloc (.cells #[.pointer (some ⟨G,0,none⟩)] 74)).alloc (.cells #[.int .i64 0] 3)).alloc (.cells #[.bool false] 4))=w1 at HBE HV0 ⊢;generalize hn0:w.heap.size=n0 at HBE HV0 HGI ⊢;rw[show n0+1+1=n0+2 from rfl];refine wpIn_loop_ghost_k (fun m a' w' => ∃(u9 u14 u15 u16 u17 u18 u19 u44:Value) (ds:List Nat) (k:Nat),a' = { tmps := #[.pointer (some ⟨G,0,none⟩),.slice A L.length cA,.pointer (some ⟨n0,0,none⟩),undef,.int .i64 0,.bool false,.pointer (some ⟨n0+1,0,none⟩),.pointer (some ⟨n0+2,0,none⟩),undef,u9,undef,.slice A L.length cA,.int .i64 (L.length:Int),.int .i64 (k:Int),u14,u15,u16,u17,u18,u19,undef,undef,undef,undef,undef,undef,undef,undef,undef,undef,undef,undef,undef,undef,undef,undef,undef,undef,undef,undef,undef,undef,undef,undef,u44,undef,undef],defers:=mkD ds } ∧ Xa5 w' ds∧(∀D ∈ ds,n0≤D)∧k≤L.length∧ArV n0 G w (minO none (arrT (grf t q) (L.take k))) w' ∧ m+k=L.length) L.length ?start ?round
 case start=>exact ⟨_,_,_,_,_,_,_,_, [],0,rfl,⟨List.nodup_nil,fun D hD=>by simp at hD⟩,fun D hD=>by simp at hD,Nat.zero_le _,HV0.out,rfl⟩
 case round =>
  rintro m a' w2 ⟨u9,u14,u15,u16,u17,u18,u19,u44,ds,k,rfl,hmk,hds,hkl,hv,hm⟩ Jg K hJ hK;have HMK:=Lib.hid hmk;have HDS:=Lib.hid hds;have HV:=Lib.hid hv;have HM:=Lib.hid hm;have HK:=Lib.hid hK;have HJ:=Lib.hid hJ;clear hmk hds hv hm hJ hK HV0
  by_cases hlt:k<L.length
  ·obtain ⟨x,hx⟩:∃x,L[k]? = some x:=⟨_,List.getElem?_eq_getElem hlt⟩;have HTK:Hid (L.take (k+1)=L.take k ++ [x]):=take_snoc hx;have HFX:Hid (Fine (grf t q) x):=HF.out x (List.mem_of_getElem? hx);obtain ⟨b2,o2,rfl,hs⟩:=(HA.out.below (by rw[hn0]; exact HV.out.be)).one (by omega)
   have hrg:w2.rangeAt b2 (o2+k * 4) (lbE.f x):=hs k x hx;have c0:=Tp.rgLb hrg;have hk0:(0:Int)≤(k:Int):=by omega
   have hk1:(k:Int)<(L.length:Int):=by omega
   have HBX:Hid (Below w2.heap.size w2 (w2.alloc (.cells #[.int .i64 x.node,.int .i64 x.frm,.int .i64 x.til,.int .i64 x.time] 81))):=(Below.refl _ _).alloc (Nat.le_refl _) _;have HX2:Hid (Bk (w2.alloc (.cells #[.int .i64 x.node,.int .i64 x.frm,.int .i64 x.til,.int .i64 x.time] 81)) w2.heap.size 81 (lbA x)):=Bk.new _ _ _;have HV2:=Lib.hid (HV.out.below HBX.out);have HMK2:=Lib.hid (HMK.out.below HBX.out);have y0:=HV2.out.g.n0;obtain ⟨x0,x1,x2,x3⟩:=HX2.out.c4;clear hx hs hrg HV HMK HBX
   gi_wp2_with fail
   generalize (w2.alloc (.cells #[.int .i64 x.node,.int .i64 x.frm,.int .i64 x.til,.int .i64 x.time] 81))=w9 at HX2 HV2 HMK2 y0 x0 x1 x2 x3 ⊢;generalize w2.heap.size=XB at HX2 x0 x1 x2 x3 ⊢;refine ⟨trivial,?_⟩;refine (Xjg _ G x w9).mono ?_;rintro e w10 ⟨rfl,rfl⟩;obtain ⟨hbG,hbL,hbB,hbS⟩:=Xmg w9 G x;have HVP:=Lib.hid (HV2.out.below hbB);have HMKP:=Lib.hid (HMK2.out.below hbB);have HPS:Hid ((mvW w9 G x).heap.size=w9.heap.size+2∧n0+3≤w9.heap.size):=⟨hbS,HV2.out.size⟩;have HBG:=Lib.hid hbG;have HBL:=Lib.hid hbL;clear hbG hbL hbB hbS HV2 HMK2 HX2 y0 x0 x1 x2 x3 c0;generalize hwP:mvW w9 G x=wP at HVP HMKP HPS HBG HBL ⊢;clear hwP;have HDL2:Hid (∀D ∈ ds,D<wP.heap.size):=HMKP.out.lt
   gi_wp2_with fail
   refine Xdm rfl (by omega) (gf:=72) (lb := #[.pointer (some ⟨w9.heap.size,0,none⟩),.pointer (some ⟨w9.heap.size+1,0,none⟩)]) rfl trivial (enters_of Tryz.func72 (by kernel_rfl) rfl)
    (Xex _ (by omega) w9.heap.size (w9.heap.size+1) G t q x w wP (by rw[hn0]; exact HVP.out.be) HBG.out HBL.out HG.out (Xmt HTOK.out HQOK.out HFX.out) (Xff HTOK.out x) (fun n r hr=>Xh1 HTOK.out HQOK.out n r hr)) KpM.trans (Xjs (by have:=HPS.out; omega)) (Below.refl _ _) (fun _=>rfl)
    (fun pre W=>ArV n0 G w (minO (minO none (arrT (grf t q) (L.take k))) (dstT q.dst pre)) W∧Xa5 W ds)
    (fun _ _=>False)
    (fun pre y b W=>(ArV n0 G w (minO (minO none (arrT (grf t q) (L.take k))) (dstT q.dst pre)) W∧Xa5 W ds)∧Bk W b 86 #[.int .i64 y.1.node,.int .i64 y.1.frm,.int .i64 y.1.til,.int .i64 y.1.time,.int .i64 y.2.ct,.int .i64 y.2.beg,.int .i64 y.2.fin,.int .i64 y.2.arr])
    ?oi (fun _ _ _ _ h _ _=>h) ?o1 ?bl ?h0 ?a1 ?assign ?body ?done ?stop
   case stop=>exact fun _ _ _ _ _ h _=>h.elim
   case oi =>
    rintro pre W W' row ⟨k1,k2⟩ hg hr;exact ⟨k1.owned (B:=wP.heap.size) (by have:=HPS.out; omega) (by omega) hg hr,k2.owned HDL2.out hg hr⟩
   case o1 =>
    rintro s W W' row ⟨⟨k1,k2⟩,k3⟩ hg hr;exact ⟨⟨k1.owned (B:=wP.heap.size) (by have:=HPS.out; omega) (by omega) hg hr,k2.owned HDL2.out hg hr⟩,Xa9 (β:=Unit) _ _ _ _ () _ _ row k3 hg hr⟩
   case bl =>
    rintro pre W o u ⟨k1,k2⟩;exact ⟨k1.blind (by have:=HPS.out; omega),k2.other fun D hD=>by have:=HDL2.out D hD; omega⟩
   case h0=>exact ⟨HVP.out,HMKP.out⟩
   case assign =>
    rintro l' pre y W ⟨k1,k2⟩ _ hbz hpl;have HB1:Hid (Bk (W.alloc (.cells #[.int .i64 y.1.node,.int .i64 y.1.frm,.int .i64 y.1.til,.int .i64 y.1.time,.int .i64 y.2.ct,.int .i64 y.2.beg,.int .i64 y.2.fin,.int .i64 y.2.arr] 86)) W.heap.size 86 #[.int .i64 y.1.node,.int .i64 y.1.frm,.int .i64 y.1.til,.int .i64 y.1.time,.int .i64 y.2.ct,.int .i64 y.2.beg,.int .i64 y.2.fin,.int .i64 y.2.arr]):=Bk.new _ _ _;have HBB:Hid (Below W.heap.size W (W.alloc (.cells #[.int .i64 y.1.node,.int .i64 y.1.frm,.int .i64 y.1.til,.int .i64 y.1.time,.int .i64 y.2.ct,.int .i64 y.2.beg,.int .i64 y.2.fin,.int .i64 y.2.arr] 86))):=(Below.refl _ _).alloc (Nat.le_refl _) _
    gi_wp2
    generalize W.alloc (.cells #[.int .i64 y.1.node,.int .i64 y.1.frm,.int .i64 y.1.til,.int .i64 y.1.time,.int .i64 y.2.ct,.int .i64 y.2.beg,.int .i64 y.2.fin,.int .i64 y.2.arr] 86)=W2 at HB1 HBB ⊢;refine ⟨Xaj HBB.out,KpM.of_below HBB.out (by have:=HPS.out; omega),?_⟩
    have HI:=Lib.hid (And.intro (k1.below HBB.out) (k2.below HBB.out));clear HBB k1 k2 hbz hpl;generalize W.heap.size=b at HB1 ⊢;refine ⟨b,?_,HI.out,HB1.out⟩
    rfl
   case body =>
    rintro l' pre y b W ⟨⟨k1,k2⟩,k3⟩ hsp hbz hpl;have HV:=Lib.hid k1;have HMK:=Lib.hid k2;have HMB:=Lib.hid k3;have HSN:=Lib.hid (Xqo q.dst pre y);generalize hoo:minO (minO none (arrT (grf t q) (L.take k))) (dstT q.dst pre)=o at HV;have HOO:=Lib.hid hoo;clear k1 k2 k3 hsp hbz hpl hoo;have HSB:Hid (∀w',Below W.heap.size W w' → (w'.cell? ⟨b,0,none⟩=some (.int .i64 y.1.node)∧w'.cell? ⟨b,3,none⟩=some (.int .i64 y.1.time)∧w'.cell? ⟨n0,0,none⟩=some (.pointer (some ⟨G,0,none⟩))∧w'.cell? ⟨G,5,none⟩=some (.int .i64 q.dst)∧w'.cell? ⟨n0+1,0,none⟩=some (.int .i64 (o.getD 0))∧w'.cell? ⟨n0+2,0,none⟩=some (.bool o.isSome))):=fun w' hb=>by
     have h0:=HMB.out.below hb HMB.out.lt;have h1:=HV.out.below hb;exact ⟨h0.cell 0,h0.cell 3,h1.g.cell 0,(HGI.out w' h1.be),h1.b.cell 0,h1.s.cell 0⟩
    have HSTAY:Hid (minO (minO none (arrT (grf t q) (L.take k))) (dstT q.dst (pre ++ [y]))=o→KeepsOthers W W.drew∧KpM w.heap.size w9.heap.size (w9.heap.size+1) W W.drew∧ArV n0 G w (minO (minO none (arrT (grf t q) (L.take k))) (dstT q.dst (pre ++ [y]))) W.drew∧Xa5 W.drew ds):=fun he=>by
     rw[he];exact ⟨Xaj (Below.refl _ _).drew,KpM.of_below (Below.refl _ _).drew (by have:=HV.out.size; omega),HV.out.below (Below.refl _ _).drew,HMK.out.below (Below.refl _ _).drew⟩
    have HPUT:Hid (minO (minO none (arrT (grf t q) (L.take k))) (dstT q.dst (pre ++ [y]))=some y.1.time→KeepsOthers W ((W.drew.setCell ⟨n0+1,0,none⟩ (.int .i64 y.1.time)).setCell ⟨n0+2,0,none⟩ (.bool true))∧KpM w.heap.size w9.heap.size (w9.heap.size+1) W ((W.drew.setCell ⟨n0+1,0,none⟩ (.int .i64 y.1.time)).setCell ⟨n0+2,0,none⟩ (.bool true))∧ArV n0 G w (minO (minO none (arrT (grf t q) (L.take k))) (dstT q.dst (pre ++ [y]))) ((W.drew.setCell ⟨n0+1,0,none⟩ (.int .i64 y.1.time)).setCell ⟨n0+2,0,none⟩ (.bool true))∧Xa5 ((W.drew.setCell ⟨n0+1,0,none⟩ (.int .i64 y.1.time)).setCell ⟨n0+2,0,none⟩ (.bool true)) ds):=fun he=>by
     rw[he];have hd:=HV.out.below (Below.refl W.heap.size W).drew;refine ⟨((Xaj (Below.refl W.heap.size W).drew).trans (KeepsOthers.setCell _ _ _)).trans (KeepsOthers.setCell _ _ _),?_,hd.put _,(HMK.out.below (Below.refl W.heap.size W).drew).put2 hd _ _⟩;exact (KpM.of_below (Below.refl W.heap.size W).drew (by have:=HV.out.size; omega)).trans (hd.kp _ _ (by omega) (by have:=HPS.out; omega) (by have:=HPS.out; omega))
    gi_wp2_with fail
    by_cases hd:y.1.node=q.dst
    ·have hsn:=HSN.out;rw[if_pos hd] at hsn;have d1:(y.1.node == q.dst)=true:=by simpa using hd
     have HM1:Hid (minO (minO none (arrT (grf t q) (L.take k))) (dstT q.dst (pre ++ [y]))=minO o [y.1.time]):=by show _=_; rw[hsn,Xgo,HOO.out]
     clear hd hsn HSN HOO;cases o with
     | none =>
       have HE:Hid (minO (minO none (arrT (grf t q) (L.take k))) (dstT q.dst (pre ++ [y]))=some y.1.time):=HM1.out;clear HM1;refine Xcs (S:=fun w' => (w'.cell? ⟨b,0,none⟩=some (.int .i64 y.1.node)∧w'.cell? ⟨b,3,none⟩=some (.int .i64 y.1.time)∧w'.cell? ⟨n0,0,none⟩=some (.pointer (some ⟨G,0,none⟩))∧w'.cell? ⟨G,5,none⟩=some (.int .i64 q.dst)∧w'.cell? ⟨n0+1,0,none⟩=some (.int .i64 0)∧w'.cell? ⟨n0+2,0,none⟩=some (.bool false))) (by kernel_rfl) (by kernel_rfl) (HSB.out _ (Below.refl _ _).drew) (fun hHeld=>?_)
       refine tkL 0 _ ?_;refine tkL 1 _ ?_;refine tkL 2 (.int .i64 y.1.node) ?_;refine tkL 3 _ ?_;refine tkL 4 _ ?_;refine tkL 5 _ ?_;refine tkL 6 _ ?_;refine tkL 7 (.int .i64 q.dst) ?_;refine tkL 8 (.bool true) ?_;refine tkL 9 (.bool true) ?_;refine tkL 10 (.bool false) ?_;refine tkL 11 (.bool true) ?_;refine tkL 12 (.bool true) ?_;refine tkL 13 undef ?_ (hy:=.inr ⟨by rfl,rfl⟩)
       refine tkL 14 undef ?_ (hy:=.inr ⟨by rfl,rfl⟩)
       refine tkL 15 undef ?_ (hy:=.inr ⟨by rfl,rfl⟩)
       refine tkL 16 undef ?_ (hy:=.inr ⟨by rfl,rfl⟩)
       refine tkL 17 undef ?_ (hy:=.inr ⟨by rfl,rfl⟩)
       refine tkL 18 (.bool true) ?_;refine tkL 19 (.bool true) ?_;refine Xi6 (by kernel_rfl) ?_
       clear hHeld;have m3:W.drew.cell? ⟨b,3,none⟩=some (.int .i64 y.1.time):=(HMB.out.below (Below.refl W.heap.size W).drew HMB.out.lt).cell 3;have b0:W.drew.cell? ⟨n0+1,0,none⟩=some (.int .i64 0):=(HV.out.below (Below.refl W.heap.size W).drew).b.cell 0;have s0:W.drew.cell? ⟨n0+2,0,none⟩=some (.bool false):=(HV.out.below (Below.refl W.heap.size W).drew).s.cell 0;have b1:W.drew.frozen? ⟨n0+1,0,none⟩=false:=(HV.out.below (Below.refl W.heap.size W).drew).b.free 0;have s1:W.drew.frozen? ⟨n0+2,0,none⟩=false:=(HV.out.below (Below.refl W.heap.size W).drew).s.free 0;have hput:=HPUT.out HE.out;have HPT:=Lib.hid hput;clear hput;generalize W.drew=W1 at m3 b0 s0 b1 s1 HPT ⊢
       gi_wp2
       exact HPT.out
     | some bb =>
       by_cases hlt:y.1.time<bb
       ·have d2:decide (y.1.time<bb)=true:=by simpa using hlt
        have HE:Hid (minO (minO none (arrT (grf t q) (L.take k))) (dstT q.dst (pre ++ [y]))=some y.1.time):=by
         have h:=HM1.out;rw[minO,minO,if_pos hlt] at h;exact h
        clear hlt HM1;refine Xcs (S:=fun w' => (w'.cell? ⟨b,0,none⟩=some (.int .i64 y.1.node)∧w'.cell? ⟨b,3,none⟩=some (.int .i64 y.1.time)∧w'.cell? ⟨n0,0,none⟩=some (.pointer (some ⟨G,0,none⟩))∧w'.cell? ⟨G,5,none⟩=some (.int .i64 q.dst)∧w'.cell? ⟨n0+1,0,none⟩=some (.int .i64 bb)∧w'.cell? ⟨n0+2,0,none⟩=some (.bool true))) (by kernel_rfl) (by kernel_rfl) (HSB.out _ (Below.refl _ _).drew) (fun hHeld=>?_)
        refine tkL 0 _ ?_;refine tkL 1 _ ?_;refine tkL 2 (.int .i64 y.1.node) ?_;refine tkL 3 _ ?_;refine tkL 4 _ ?_;refine tkL 5 _ ?_;refine tkL 6 _ ?_;refine tkL 7 (.int .i64 q.dst) ?_;refine tkL 8 (.bool true) ?_;refine tkL 9 (.bool true) ?_;refine tkL 10 (.bool true) ?_;refine tkL 11 (.bool false) ?_;refine tkL 12 (.bool false) ?_;refine tkL 13 _ ?_;refine tkL 14 _ ?_;refine tkL 15 (.int .i64 y.1.time) ?_;refine tkL 16 (.int .i64 bb) ?_;refine tkL 17 (.bool true) ?_;refine tkL 18 (.bool true) ?_;refine tkL 19 (.bool true) ?_;refine Xi6 (by kernel_rfl) ?_
        clear hHeld;have m3:W.drew.cell? ⟨b,3,none⟩=some (.int .i64 y.1.time):=(HMB.out.below (Below.refl W.heap.size W).drew HMB.out.lt).cell 3;have b0:W.drew.cell? ⟨n0+1,0,none⟩=some (.int .i64 bb):=(HV.out.below (Below.refl W.heap.size W).drew).b.cell 0;have s0:W.drew.cell? ⟨n0+2,0,none⟩=some (.bool true):=(HV.out.below (Below.refl W.heap.size W).drew).s.cell 0;have b1:W.drew.frozen? ⟨n0+1,0,none⟩=false:=(HV.out.below (Below.refl W.heap.size W).drew).b.free 0;have s1:W.drew.frozen? ⟨n0+2,0,none⟩=false:=(HV.out.below (Below.refl W.heap.size W).drew).s.free 0;have hput:=HPUT.out HE.out;have HPT:=Lib.hid hput;clear hput;generalize W.drew=W1 at m3 b0 s0 b1 s1 HPT ⊢
        gi_wp2
        exact HPT.out
       ·have d2:decide (y.1.time<bb)=false:=by simpa using hlt
        have HE:Hid (minO (minO none (arrT (grf t q) (L.take k))) (dstT q.dst (pre ++ [y]))=some bb):=by
         have h:=HM1.out;rw[minO,minO,if_neg hlt] at h;exact h
        clear hlt HM1;refine Xcs (S:=fun w' => (w'.cell? ⟨b,0,none⟩=some (.int .i64 y.1.node)∧w'.cell? ⟨b,3,none⟩=some (.int .i64 y.1.time)∧w'.cell? ⟨n0,0,none⟩=some (.pointer (some ⟨G,0,none⟩))∧w'.cell? ⟨G,5,none⟩=some (.int .i64 q.dst)∧w'.cell? ⟨n0+1,0,none⟩=some (.int .i64 bb)∧w'.cell? ⟨n0+2,0,none⟩=some (.bool true))) (by kernel_rfl) (by kernel_rfl) (HSB.out _ (Below.refl _ _).drew) (fun hHeld=>?_)
        refine tkL 0 _ ?_;refine tkL 1 _ ?_;refine tkL 2 (.int .i64 y.1.node) ?_;refine tkL 3 _ ?_;refine tkL 4 _ ?_;refine tkL 5 _ ?_;refine tkL 6 _ ?_;refine tkL 7 (.int .i64 q.dst) ?_;refine tkL 8 (.bool true) ?_;refine tkL 9 (.bool true) ?_;refine tkL 10 (.bool true) ?_;refine tkL 11 (.bool false) ?_;refine tkL 12 (.bool false) ?_;refine tkL 13 _ ?_;refine tkL 14 _ ?_;refine tkL 15 (.int .i64 y.1.time) ?_;refine tkL 16 (.int .i64 bb) ?_;refine tkL 17 (.bool false) ?_;refine tkL 18 (.bool false) ?_;refine tkL 19 (.bool false) ?_;refine Xi6 (by kernel_rfl) ?_
        clear hHeld
        gi_wp2
        have hst:=HSTAY.out (HE.out)
        first | exact hst | (obtain ⟨h1,h2,h3,h4⟩:=hst; exact ⟨h1,h2,h3,h4⟩)
    ·have HE:Hid (minO (minO none (arrT (grf t q) (L.take k))) (dstT q.dst (pre ++ [y]))=o):=by
      have hsn:=HSN.out;rw[if_neg hd] at hsn;show _=_;rw[hsn];exact HOO.out
     have d1:(y.1.node == q.dst)=false:=by simpa using hd
     clear hd HSN HOO;refine Xcs (S:=fun w' => (w'.cell? ⟨b,0,none⟩=some (.int .i64 y.1.node)∧w'.cell? ⟨b,3,none⟩=some (.int .i64 y.1.time)∧w'.cell? ⟨n0,0,none⟩=some (.pointer (some ⟨G,0,none⟩))∧w'.cell? ⟨G,5,none⟩=some (.int .i64 q.dst)∧w'.cell? ⟨n0+1,0,none⟩=some (.int .i64 (o.getD 0))∧w'.cell? ⟨n0+2,0,none⟩=some (.bool o.isSome))) (by kernel_rfl) (by kernel_rfl) (HSB.out _ (Below.refl _ _).drew) (fun hHeld=>?_)
     refine tkL 0 _ ?_;refine tkL 1 _ ?_;refine tkL 2 (.int .i64 y.1.node) ?_;refine tkL 3 _ ?_;refine tkL 4 _ ?_;refine tkL 5 _ ?_;refine tkL 6 _ ?_;refine tkL 7 (.int .i64 q.dst) ?_;refine tkL 8 (.bool false) ?_;refine tkL 9 (.bool false) ?_;refine tkL 10 undef ?_ (hy:=.inr ⟨by rfl,rfl⟩)
     refine tkL 11 undef ?_ (hy:=.inr ⟨by rfl,rfl⟩)
     refine tkL 12 undef ?_ (hy:=.inr ⟨by rfl,rfl⟩)
     refine tkL 13 undef ?_ (hy:=.inr ⟨by rfl,rfl⟩)
     refine tkL 14 undef ?_ (hy:=.inr ⟨by rfl,rfl⟩)
     refine tkL 15 undef ?_ (hy:=.inr ⟨by rfl,rfl⟩)
     refine tkL 16 undef ?_ (hy:=.inr ⟨by rfl,rfl⟩)
     refine tkL 17 undef ?_ (hy:=.inr ⟨by rfl,rfl⟩)
     refine tkL 18 undef ?_ (hy:=.inr ⟨by rfl,rfl⟩)
     refine tkL 19 (.bool false) ?_;refine Xi6 (by kernel_rfl) ?_
     clear hHeld
     gi_wp2
     have hst:=HSTAY.out (HE.out)
     first | exact hst | (obtain ⟨h1,h2,h3,h4⟩:=hst; exact ⟨h1,h2,h3,h4⟩)
   case done =>
    rintro D xs W hD rfl ⟨k1,k2⟩ hDD
    (try simp only[Exit.inBlock,Exit.then])
    have hmm:=HM.out;have hv10:ArV n0 G w (minO none (arrT (grf t q) (L.take (k+1)))) W:=by
     rw[HTK.out,Xr,Xgo];exact k1
    have HV10:=Lib.hid hv10;have HDS10:Hid (∀E ∈ D :: ds,n0≤E):=by
     intro E hE;rcases List.mem_cons.1 hE with e | e
     ·rw[e]; have:=HPS.out; omega
     ·exact HDS.out E e
    have HMK10:Hid (Xa5 W (D :: ds)):=k2.cons hDD (fun h=>by have:=HDL2.out D h; omega)
    clear k1 k2 hDD hv10
    gi_wp2
    rw[show ((k:Int)+1)=((k+1:Nat):Int) by omega]
    exact HK.out _ _ ⟨m - 1,by omega,HJ.out _ _ _ ⟨_,_,_,_,_,_,_,_,D :: ds,k+1,rfl,HMK10.out,HDS10.out,by omega,HV10.out,by omega⟩⟩
  ·have hkk:k=L.length:=by omega
   subst hkk;have hF:L.take L.length=L:=List.take_length;rw[hF] at HV;generalize ho:minO none (arrT (grf t q) L)=o at HV;have b0:=HV.out.b.n0;have s0:=HV.out.s.n0;generalize hv0:o.getD 0=v0 at b0;generalize hv1:o.isSome=v1 at s0;have HEQ:Hid (v0=(minO none (arrT (grf t q) L)).getD 0∧v1=(minO none (arrT (grf t q) L)).isSome):=by rw[ho,hv0,hv1]; exact ⟨rfl,rfl⟩
   clear ho hv0 hv1
   gi_wp2_with fail
   refine wpIn_wide.2 ?_;go_quiet (fail);clear b0 s0
   gi_wp2
   have hm5:Xa5 (w2.drewN nq) ds:=HMK.out.below (Xa4 (Below.refl _ _) nq);have hb5:Below n0 w (Xcf (w2.drewN nq) ds):=Xbx (Xa4 HV.out.be nq) HDS.out;exact Xco (ds:=ds) (v:=.tuple #[.int .i64 v0,.bool v1]) hm5 (by simp[results,Tryz.results27,go_sem]) ⟨by rw[←HEQ.out.1, ←HEQ.out.2],by rw[hn0]; exact hb5⟩
end Go.Proofs.YtebkgbmijocdjaaGreat.Tp
