/- A part of the proof for the ledger. No condition beyond those that each theorem states. -/
import Derived.Maps.OwnIn
import Derived.Test.YtebkgbmijocdjaaGreatZ24
set_option maxHeartbeats 32000000
set_option maxRecDepth 100000
set_option linter.unusedVariables false
set_option linter.unusedSimpArgs false
namespace Go.Proofs.YtebkgbmijocdjaaGreat.Tp
open Go Go.RowKit
attribute [local go_sem] Oper.semAt_some
theorem Xg4 (G:Nat)(t:Tbl)(q:Rq)(w:World)(hg:GAt w G t q) :
  Calls Tryz.prog 28 #[.pointer (some ⟨G,0,none⟩)] w fun e w' => ∃L,L.Perm (Xfn (grf t q))∧Xcz lbE L w e w':=by
 have HG:=Lib.hid hg;obtain ⟨Aq,cq,Ac,cc,B,cb,H,ch,Ag,cg,Ar,cr,Ad,cd,hbk,hin⟩:=hg;have HTOK:=Lib.hid hin.tok;have HQOK:=Lib.hid hin.qok;obtain ⟨sn,hsn⟩:∃sn:Nat,q.src=(sn:Int):=⟨q.src.toNat,by have:=hin.qok.2.1; omega⟩
 have hsl:sn<t.p.q.length:=by have:=hin.qok.2.1; omega
 obtain ⟨l,hl⟩:∃l,(Xak t q.size)[sn]? = some l:=⟨_,List.getElem?_eq_getElem (by simp[Xak]; exact hsl)⟩
 have HST:Hid (stL q.src q.ready l=Xf8 (grf t q)):=by
  show _=_;unfold Xf8 stL;rw[show (grf t q).src=q.src from rfl,hsn,Int.toNat_natCast,List.getD_eq_getElem?_getD,show (grf t q).rooms[sn]? = some l from hl]
  rfl
 obtain ⟨b,off,A',c',rfl,hcl,hs,hlc,hlm⟩:=hin.rooms sn l hl;have HHS:Hid ((((w.alloc (.cells #[.pointer (some ⟨G,0,none⟩)] 74)).alloc (.cells #[.slice none 0 0] 57)).alloc (.cells #[.slice none 0 0] 57)).heap.size=w.heap.size+3):=by show _=_; simp
 have HBE:Hid (Below w.heap.size w (((w.alloc (.cells #[.pointer (some ⟨G,0,none⟩)] 74)).alloc (.cells #[.slice none 0 0] 57)).alloc (.cells #[.slice none 0 0] 57))):=(((Below.refl _ _).alloc (Nat.le_refl _) _).alloc (by simp) _).alloc (by simp; omega) _
 have HV0:Hid (LbV w.heap.size G w [] [] [] (.slice none 0 0) (.slice none 0 0) (((w.alloc (.cells #[.pointer (some ⟨G,0,none⟩)] 74)).alloc (.cells #[.slice none 0 0] 57)).alloc (.cells #[.slice none 0 0] 57))):=by
  refine ⟨((Bk.new w _ _).alloc _).alloc _,?_,?_,World.ownsRow_nil _ _ _ _,World.ownsRow_nil _ _ _ _,.inl rfl,fun k hk=>by simp at hk,HBE.out⟩
  ·have h:=Bk.new (w.alloc (.cells #[.pointer (some ⟨G,0,none⟩)] 74)) 57 #[.slice none 0 0];rw[World.size_alloc] at h;exact h.alloc _
  ·have h:=Bk.new ((w.alloc (.cells #[.pointer (some ⟨G,0,none⟩)] 74)).alloc (.cells #[.slice none 0 0] 57)) 57 #[.slice none 0 0]
   rwa [World.size_alloc,World.size_alloc] at h
 have HGI:Hid (∀w',Below w.heap.size w w' → w'.cell? ⟨G,12,none⟩=some (.slice (some ⟨b,off,none⟩) t.p.q.length cr)∧w'.cell? ⟨G,4,none⟩=some (.int .i64 q.src)∧w'.cell? ⟨G,7,none⟩=some (.int .i64 q.ready)∧w'.cell? ⟨G,5,none⟩=some (.int .i64 q.dst)∧w'.cell? ⟨b,off+sn,none⟩=some (.slice A' l.length c')∧SlAt spE w' A' l):=fun w' hb=>by
  have h:=hbk.below hb hbk.lt;exact ⟨h.cell 12,h.cell 4,h.cell 7,h.cell 5,(hb.cell (p:=⟨b,off+sn,none⟩) (World.block_lt_of_cell? _ _ hcl)).trans hcl,hs.below hb⟩
 have hi0:(0:Int)≤(sn:Int):=by omega
 have hi1:(sn:Int)<(t.p.q.length:Int):=by omega
 have hqm:=hin.tb.p.qm;unfold maxLen at hqm;clear hbk hin hl hs hcl;refine (callsIn_wide (n:=8)).1 ?_;refine callsIn_of_wp_marks Tryz.func28 rfl trivial ?_ rfl;simp only[Tryz.ntmps28,List.size_toArray,List.length_cons,List.length_nil,Nat.reduceAdd,Nat.reduceSub,Array.replicate_succ,Array.replicate_zero,List.push_toArray,List.append_toArray,List.nil_append,List.cons_append]
 gi_wp2_with fail
 generalize (((w.alloc (.cells #[.pointer (some ⟨G,0,none⟩)] 74)).alloc (.cells #[.slice none 0 0] 57)).alloc (.cells #[.slice none 0 0] 57))=w1 at HHS HBE HV0 ⊢;generalize hn0:w.heap.size=n0 at HHS HBE HV0 HGI ⊢;obtain ⟨y12,y4,y7,y5,yb, -⟩:=HGI.out w1 HBE.out;rw[hsn] at y4;have x0:=HV0.out.g.n0;refine wpIn_wide.2 ?_;go_quiet (fail);clear y12 y4 y7 y5 yb x0 hsn
 gi_wp2
 rw[show n0+1+1=n0+2 from rfl]
 gi_loopw [6,21] (fun _ i wr => ∃(k:Nat) (vo:Value),k≤l.length∧i = .int .i64 k∧LbV n0 G w [] [] (stL q.src q.ready (l.take k)) (.slice none 0 0) vo wr) (fun _ i _=>l.length - (intOf i).toNat)
 case atStart=>exact ⟨0,_,Nat.zero_le _,rfl,HV0.out.below (Xa4 (Below.refl _ _) _)⟩
 case round =>
  obtain ⟨k,vo,hk,rfl,hv⟩:=hrel;have HV:=Lib.hid hv;clear hv HV0
  by_cases hlt:k<l.length
  ·obtain ⟨r,hr⟩:∃r,l[k]? = some r:=⟨_,List.getElem?_eq_getElem hlt⟩;have HR:=Lib.hid hr;obtain ⟨b2,o2,rfl,hs⟩:=(HGI.out wr HV.out.be).2.2.2.2.2.one (by omega)
   have hrg:wr.rangeAt b2 (o2+k * 2) (spE.f r):=hs k r hr;obtain ⟨c0,c1⟩:=Tp.rgSp hrg;have hk0:(0:Int)≤(k:Int):=by omega
   have hk1:(k:Int)<(l.length:Int):=by omega
   obtain ⟨_,_,rfl,rfl,-,HBX,HSP⟩:=box1 wr 142 #[.int .i64 r.frm,.int .i64 r.til];have HV2:=Lib.hid (HV.out.below HBX.out);have HWZ:Hid (n0+3≤wr.heap.size):=HV.out.size;clear hr hs hrg HV
   gi_wp2_with fail
   generalize (wr.alloc (.cells #[.int .i64 r.frm,.int .i64 r.til] 142))=W at HBX HSP HV2 ⊢;generalize wr.heap.size=sb at HSP HWZ ⊢;clear c0 c1 HBX;obtain ⟨-,y4,y7,-,-, -⟩:=HGI.out W HV2.out.be;have x0:=HV2.out.g.n0;have s0:=HSP.out.c2;have HTK:Hid (l.take (k+1)=l.take k ++ [r]):=take_snoc HR.out
   by_cases h1:r.frm≤q.ready
   ·have d1:decide (r.frm≤q.ready)=true:=by simpa using h1
    by_cases h2:q.ready<r.til
    ·have d2:decide (q.ready<r.til)=true:=by simpa using h2
     have HF:Hid (stL q.src q.ready (l.take (k+1))=stL q.src q.ready (l.take k) ++ [⟨q.src,r.frm,r.til,q.ready⟩]):=by show _=_; rw[HTK.out,Xj3,if_pos ⟨h1,h2⟩]
     clear h1 h2 HR;have HF2:=HF;clear HF;refine wpIn_wide.2 ?_;go_quiet (fail);clear y4 y7 x0 s0 d1 d2
     gi_wp2_with fail
     have HV3:=Lib.hid (HV2.out.below (Xa4 (Below.refl _ _) nq));have HSP3:Hid (Bk (W.drewN nq) sb 142 #[.int .i64 r.frm,.int .i64 r.til]):=HSP.out.drewN nq;have HF:Hid (∀w',Bk w' n0 74 #[.pointer (some ⟨G,0,none⟩)] → Below n0 w w' → Bk w' sb 142 #[.int .i64 r.frm,.int .i64 r.til] → (w'.cell? ⟨n0,0,none⟩=some (.pointer (some ⟨G,0,none⟩))∧w'.cell? ⟨G,4,none⟩=some (.int .i64 q.src)∧w'.cell? ⟨G,7,none⟩=some (.int .i64 q.ready)∧w'.cell? ⟨sb,0,none⟩=some (.int .i64 r.frm)∧w'.cell? ⟨sb,1,none⟩=some (.int .i64 r.til))):=fun w' h1 h2 h3=>⟨h1.cell 0,(HGI.out w' h2).2.1,(HGI.out w' h2).2.2.1,h3.cell 0,h3.cell 1⟩;have HLN:Hid ((stL q.src q.ready (l.take k)).length≤1000000):=by
      show _≤_;unfold stL;rw[List.length_map];refine Nat.le_trans (List.length_filter_le _ _) ?_;rw[List.length_take];omega
     generalize (W.drewN nq)=V at HV3 HSP3 ⊢;clear HV2 HSP;obtain ⟨A1,c1,rfl,-, -⟩:=Xah (E:=lbE) HV3.out.ro;refine wpIn_wide.2 ?_;refine Xpw (S:=fun w' => (w'.cell? ⟨n0,0,none⟩=some (.pointer (some ⟨G,0,none⟩))∧w'.cell? ⟨G,4,none⟩=some (.int .i64 q.src)∧w'.cell? ⟨G,7,none⟩=some (.int .i64 q.ready)∧w'.cell? ⟨sb,0,none⟩=some (.int .i64 r.frm)∧w'.cell? ⟨sb,1,none⟩=some (.int .i64 r.til))) (by kernel_rfl) (HF.out _ (HV3.out.below (Below.refl V.heap.size V).drew).g (HV3.out.below (Below.refl V.heap.size V).drew).be (HSP3.out.below (Below.refl V.heap.size V).drew HSP3.out.lt)) (fun hHeld=>?_)
     have HV4:=Lib.hid (HV3.out.below (Below.refl V.heap.size V).drew);have HSP4:=Lib.hid (HSP3.out.below (Below.refl V.heap.size V).drew HSP3.out.lt);clear HV3 HSP3;generalize V.drew=V1 at HV4 HSP4 hHeld ⊢;refine tkL 1 _ ?_;refine tkL 2 _ ?_;refine tkL 3 _ ?_;refine tkL 4 _ ?_;refine tkL 5 _ ?_;refine tkL 6 _ ?_;refine tkL 7 _ ?_;refine tkL 8 _ ?_;refine tkL 9 _ ?_;refine tkL 10 _ ?_;refine tkL 11 _ ?_;refine tkL 12 _ ?_;refine tkL 13 _ ?_;refine tkL 14 _ ?_;refine tkL 15 _ ?_;refine Xo5 (i:=0) (j:=16) rfl rfl (by kernel_rfl) (by rfl) (by rfl) (fun K hK=>?_) (fun K hK=>?_)
     ·have o1:V1.cell? ⟨n0+2,0,none⟩=some (.slice A1 (stL q.src q.ready (l.take k)).length c1):=(HV4.out.o.below (Below.refl V1.heap.size V1) HV4.out.o.lt).cell 0;go_simp;refine hK _ _ (HF.out _ (HV4.out.g.below (Below.refl V1.heap.size V1) HV4.out.g.lt) (HV4.out.be.trans ((Below.refl V1.heap.size V1).mono (by have:=HV4.out.size; omega))) (HSP4.out.below (Below.refl V1.heap.size V1) HSP4.out.lt)) (fun hHeld=>?_)
      clear hK K o1
      try simp only[PU]
      refine Xat (i:=16) rfl (by kernel_rfl) (by rfl) (fun K hK=>?_)
      go_simp;have HB7:Hid (Below V1.heap.size V1 (V1.alloc (.cells #[.int .i64 q.src,.int .i64 r.frm,.int .i64 r.til,.int .i64 q.ready] 81))):=((Below.refl V1.heap.size V1)).alloc (Nat.le_refl _) _;have HN7:Hid (∀j u, [.int .i64 q.src,.int .i64 r.frm,.int .i64 r.til,.int .i64 q.ready][j]? = some u→(V1.alloc (.cells #[.int .i64 q.src,.int .i64 r.frm,.int .i64 r.til,.int .i64 q.ready] 81)).cell? ((⟨V1.heap.size,0,none⟩:Addr).add j)=some u):=fun j u hu=>by rw[Addr.add_mid,Nat.zero_add]; exact Xcj _ [.int .i64 q.src,.int .i64 r.frm,.int .i64 r.til,.int .i64 q.ready] _ rfl j u hu
      refine hK _ _ (HF.out _ (HV4.out.g.below HB7.out HV4.out.g.lt) (HV4.out.be.trans (HB7.out.mono (by have:=HV4.out.size; omega))) (HSP4.out.below HB7.out HSP4.out.lt)) (fun hHeld=>?_)
      clear hK K
      try simp only[PU]
      refine Xat (i:=17) rfl (by kernel_rfl) (by rfl) (fun K hK=>?_)
      generalize (V1.alloc (.cells #[.int .i64 q.src,.int .i64 r.frm,.int .i64 r.til,.int .i64 q.ready] 81))=w7 at HB7 HN7 hHeld ⊢;refine Xf4 (.tmp 43) (.tmp 59) rfl (n0+3) (.slice A1 (stL q.src q.ready (l.take k)).length c1) (stL q.src q.ready (l.take k)).length ((stL q.src q.ready (l.take k)).flatMap lbE.f) rfl (Xa6 HV4.out.ro HB7.out) ⟨V1.heap.size,0,none⟩ [.int .i64 q.src,.int .i64 r.frm,.int .i64 r.til,.int .i64 q.ready] rfl rfl HN7.out (fun u hu=>lbE.one ⟨q.src,r.frm,r.til,q.ready⟩ u hu) (by have:=HLN.out; omega) (by have h1:=HB7.out.size; have h2:=HV4.out.size; omega) (fun v' w8 h2 h3 h4=>?_)
      have hfl:(stL q.src q.ready (l.take k)).flatMap lbE.f ++ [.int .i64 q.src,.int .i64 r.frm,.int .i64 r.til,.int .i64 q.ready] = (stL q.src q.ready (l.take (k+1))).flatMap lbE.f:=by rw[HF2.out,List.flatMap_append]; rfl
      have hln:(stL q.src q.ready (l.take k)).length+1=(stL q.src q.ready (l.take (k+1))).length:=by rw[HF2.out,List.length_append]; rfl
      rw[hfl,hln] at h2;obtain ⟨A8,c8,rfl,-, -⟩:=Xah (E:=lbE) h2;obtain ⟨hv8,ho8⟩:=HV4.out.setO HB7.out h3 h2 h4 (fun k hk=>by simp at hk)
      have HV8:=Lib.hid hv8;have HO8:=Lib.hid ho8;have HS8:Hid (Bk w8 sb 142 #[.int .i64 r.frm,.int .i64 r.til]):=(HSP4.out.below HB7.out HSP4.out.lt).grown h3 (Xa1 (HSP4.out.below HB7.out HSP4.out.lt) (by decide) (Xa6 HV4.out.ro HB7.out))
      have HG8:Hid (Bk w8 n0 74 #[.pointer (some ⟨G,0,none⟩)]):=(HV4.out.g.below HB7.out HV4.out.g.lt).grown h3 (Xa1 (HV4.out.g.below HB7.out HV4.out.g.lt) (by decide) (Xa6 HV4.out.ro HB7.out))
      have HE8:Hid (Below n0 w w8):=((HV4.out.below HB7.out).be).grown h3 (by have h1:=HB7.out.size; have h2:=HV4.out.size; omega) (fun j e=>by have:=(Xbp (HV4.out.below HB7.out).ro j e).1; omega)
      have HS9:Hid (Bk (w8.setCell ⟨n0+2,0,none⟩ (.slice A8 (stL q.src q.ready (l.take (k+1))).length c8)) sb 142 #[.int .i64 r.frm,.int .i64 r.til]):=HS8.out.other (p:=⟨n0+2,0,none⟩) (by have:=HWZ.out; show sb ≠ n0+2; omega) _
      refine hK _ _ (HF.out _ HG8.out HE8.out HS8.out) (fun hHeld=>?_);clear hK K h2 h3 h4 hv8 ho8 hfl hln
      try simp only[PU]
      refine Xat (i:=18) rfl (by kernel_rfl) (by rfl) (fun K hK=>?_)
      have o8:=HO8.out.cell 0;have f8:=HO8.out.free 0;simp only[List.getElem?_toArray,List.getElem?_cons_zero] at o8;go_simp;refine hK _ _ (HF.out _ HV8.out.g HV8.out.be HS9.out) (fun hHeld=>?_);clear hK K o8 f8 hHeld
      try simp only[PU]
      refine Xi6 (by kernel_rfl) ?_
      gi_wp2
      go_roundw
      case rel=>exact ⟨k+1,_,by omega,by go_num,HV8.out⟩
      case measure=>simp[intOf]; omega
     ·go_simp;have HB7:Hid (Below V1.heap.size V1 (V1.alloc (.cells #[.int .i64 q.src,.int .i64 r.frm,.int .i64 r.til,.int .i64 q.ready] 81))):=((Below.refl V1.heap.size V1)).alloc (Nat.le_refl _) _;have HN7:Hid (∀j u, [.int .i64 q.src,.int .i64 r.frm,.int .i64 r.til,.int .i64 q.ready][j]? = some u→(V1.alloc (.cells #[.int .i64 q.src,.int .i64 r.frm,.int .i64 r.til,.int .i64 q.ready] 81)).cell? ((⟨V1.heap.size,0,none⟩:Addr).add j)=some u):=fun j u hu=>by rw[Addr.add_mid,Nat.zero_add]; exact Xcj _ [.int .i64 q.src,.int .i64 r.frm,.int .i64 r.til,.int .i64 q.ready] _ rfl j u hu
      refine hK _ _ (HF.out _ (HV4.out.g.below HB7.out HV4.out.g.lt) (HV4.out.be.trans (HB7.out.mono (by have:=HV4.out.size; omega))) (HSP4.out.below HB7.out HSP4.out.lt)) (fun hHeld=>?_)
      clear hK K
      try simp only[PU]
      refine Xat (i:=0) rfl (by kernel_rfl) (by rfl) (fun K hK=>?_)
      have o1:(V1.alloc (.cells #[.int .i64 q.src,.int .i64 r.frm,.int .i64 r.til,.int .i64 q.ready] 81)).cell? ⟨n0+2,0,none⟩=some (.slice A1 (stL q.src q.ready (l.take k)).length c1):=(HV4.out.o.below HB7.out HV4.out.o.lt).cell 0;go_simp;refine hK _ _ (HF.out _ (HV4.out.g.below HB7.out HV4.out.g.lt) (HV4.out.be.trans (HB7.out.mono (by have:=HV4.out.size; omega))) (HSP4.out.below HB7.out HSP4.out.lt)) (fun hHeld=>?_)
      clear hK K o1
      try simp only[PU]
      refine Xat (i:=17) rfl (by kernel_rfl) (by rfl) (fun K hK=>?_)
      generalize (V1.alloc (.cells #[.int .i64 q.src,.int .i64 r.frm,.int .i64 r.til,.int .i64 q.ready] 81))=w7 at HB7 HN7 hHeld ⊢;refine Xf4 (.tmp 43) (.tmp 59) rfl (n0+3) (.slice A1 (stL q.src q.ready (l.take k)).length c1) (stL q.src q.ready (l.take k)).length ((stL q.src q.ready (l.take k)).flatMap lbE.f) rfl (Xa6 HV4.out.ro HB7.out) ⟨V1.heap.size,0,none⟩ [.int .i64 q.src,.int .i64 r.frm,.int .i64 r.til,.int .i64 q.ready] rfl rfl HN7.out (fun u hu=>lbE.one ⟨q.src,r.frm,r.til,q.ready⟩ u hu) (by have:=HLN.out; omega) (by have h1:=HB7.out.size; have h2:=HV4.out.size; omega) (fun v' w8 h2 h3 h4=>?_)
      have hfl:(stL q.src q.ready (l.take k)).flatMap lbE.f ++ [.int .i64 q.src,.int .i64 r.frm,.int .i64 r.til,.int .i64 q.ready] = (stL q.src q.ready (l.take (k+1))).flatMap lbE.f:=by rw[HF2.out,List.flatMap_append]; rfl
      have hln:(stL q.src q.ready (l.take k)).length+1=(stL q.src q.ready (l.take (k+1))).length:=by rw[HF2.out,List.length_append]; rfl
      rw[hfl,hln] at h2;obtain ⟨A8,c8,rfl,-, -⟩:=Xah (E:=lbE) h2;obtain ⟨hv8,ho8⟩:=HV4.out.setO HB7.out h3 h2 h4 (fun k hk=>by simp at hk)
      have HV8:=Lib.hid hv8;have HO8:=Lib.hid ho8;have HS8:Hid (Bk w8 sb 142 #[.int .i64 r.frm,.int .i64 r.til]):=(HSP4.out.below HB7.out HSP4.out.lt).grown h3 (Xa1 (HSP4.out.below HB7.out HSP4.out.lt) (by decide) (Xa6 HV4.out.ro HB7.out))
      have HG8:Hid (Bk w8 n0 74 #[.pointer (some ⟨G,0,none⟩)]):=(HV4.out.g.below HB7.out HV4.out.g.lt).grown h3 (Xa1 (HV4.out.g.below HB7.out HV4.out.g.lt) (by decide) (Xa6 HV4.out.ro HB7.out))
      have HE8:Hid (Below n0 w w8):=((HV4.out.below HB7.out).be).grown h3 (by have h1:=HB7.out.size; have h2:=HV4.out.size; omega) (fun j e=>by have:=(Xbp (HV4.out.below HB7.out).ro j e).1; omega)
      have HS9:Hid (Bk (w8.setCell ⟨n0+2,0,none⟩ (.slice A8 (stL q.src q.ready (l.take (k+1))).length c8)) sb 142 #[.int .i64 r.frm,.int .i64 r.til]):=HS8.out.other (p:=⟨n0+2,0,none⟩) (by have:=HWZ.out; show sb ≠ n0+2; omega) _
      refine hK _ _ (HF.out _ HG8.out HE8.out HS8.out) (fun hHeld=>?_);clear hK K h2 h3 h4 hv8 ho8 hfl hln
      try simp only[PU]
      refine Xat (i:=18) rfl (by kernel_rfl) (by rfl) (fun K hK=>?_)
      have o8:=HO8.out.cell 0;have f8:=HO8.out.free 0;simp only[List.getElem?_toArray,List.getElem?_cons_zero] at o8;go_simp;refine hK _ _ (HF.out _ HV8.out.g HV8.out.be HS9.out) (fun hHeld=>?_);clear hK K o8 f8 hHeld
      try simp only[PU]
      refine Xi6 (by kernel_rfl) ?_
      gi_wp2
      go_roundw
      case rel=>exact ⟨k+1,_,by omega,by go_num,HV8.out⟩
      case measure=>simp[intOf]; omega
    ·have d2:decide (q.ready<r.til)=false:=by simpa using h2
     have HF:Hid (stL q.src q.ready (l.take (k+1))=stL q.src q.ready (l.take k)):=by show _=_; rw[HTK.out,Xj3,if_neg (fun h=>h2 h.2)]
     clear h1 h2 HR;refine wpIn_wide.2 ?_;go_quiet (fail);clear y4 y7 x0 s0 d1 d2
     gi_wp2
     go_roundw
     case rel=>exact ⟨k+1,vo,by omega,by go_num,by rw[HF.out]; exact HV2.out.below (Xa4 (Below.refl _ _) _)⟩
     case measure=>simp[intOf]; omega
   ·have d1:decide (r.frm≤q.ready)=false:=by simpa using h1
    have HF:Hid (stL q.src q.ready (l.take (k+1))=stL q.src q.ready (l.take k)):=by show _=_; rw[HTK.out,Xj3,if_neg (fun h=>h1 h.1)]
    clear h1 HR;refine wpIn_wide.2 ?_;go_quiet (fail);clear y4 y7 x0 s0 d1
    gi_wp2
    go_roundw
    case rel=>exact ⟨k+1,vo,by omega,by go_num,by rw[HF.out]; exact HV2.out.below (Xa4 (Below.refl _ _) _)⟩
    case measure=>simp[intOf]; omega
  ·have hkl:k=l.length:=by omega
   have HV1:Hid (∃vo,LbV n0 G w [] [] (Xf8 (grf t q)) (.slice none 0 0) vo wr):=by
    refine ⟨vo,?_⟩;have h:=HV.out;rw[hkl,List.take_length,HST.out] at h;exact h
   clear HV hkl HST
   gi_wp2_with fail
   obtain ⟨vo0,hv1⟩:=HV1.out;refine wpIn_loop_ghost_k (fun m a' w' => ∃(u7 u62 u63 u64 u65 u66 u67 u68 u69 u70 u71 u72 u73 u74 u75 u76:Value) (ds:List Nat) (vd vo:Value) (j:Nat),a' = { tmps := #[.pointer (some ⟨G,0,none⟩),.pointer (some ⟨n0,0,none⟩),.slice none 0 0,.pointer (some ⟨n0+1,0,none⟩),.pointer (some ⟨n0+2,0,none⟩),undef,u6,u7,undef,.pointer (some ⟨G,0,none⟩),.pointer (some ⟨G,0,none⟩),.pointer (some ⟨G,12,none⟩),.slice (some ⟨b,off,none⟩) t.p.q.length cr,.pointer (some ⟨G,0,none⟩),.pointer (some ⟨G,0,none⟩),.pointer (some ⟨G,4,none⟩),.pointer (some ⟨G,4,none⟩),.int .i64 (sn:Int),.pointer (some ⟨b,off+sn,none⟩),.slice A' l.length c',.int .i64 (l.length:Int),.int .i64 (k:Int),.bool false,u23,u24,u25,u26,u27,u28,u29,u30,u31,u32,u33,u34,u35,u36,u37,u38,u39,u40,u41,u42,u43,u44,u45,u46,u47,u48,u49,u50,u51,u52,u53,u54,u55,u56,u57,u58,u59,u60,u61,u62,u63,u64,u65,u66,u67,u68,u69,u70,u71,u72,u73,u74,u75,u76,undef,undef,undef,undef,undef,undef,undef,undef,undef,undef,undef,undef,undef,undef,undef,undef,undef,undef,undef,undef,undef,undef,undef,undef],defers:=mkD ds } ∧ Xa5 w' ds∧(∀D ∈ ds,n0≤D)∧(∀i<j,(Xb0 (grf t q) i).2 ≠ [])∧LbV n0 G w [] (Xb0 (grf t q) j).1 (Xb0 (grf t q) j).2 vd vo w' ∧ m+j=keyN (grf t q)+1) (keyN (grf t q)+1) ?start ?round
   case start=>exact ⟨_,_,_,_,_,_,_,_,_,_,_,_,_,_,_,_, [],_,_,0,rfl,⟨List.nodup_nil,fun D hD=>by simp at hD⟩,fun D hD=>by simp at hD,fun i hi=>absurd hi (Nat.not_lt_zero _),hv1,rfl⟩
   case round =>
    rintro m a' w2 ⟨u7,u62,u63,u64,u65,u66,u67,u68,u69,u70,u71,u72,u73,u74,u75,u76,ds,vd,vo,j,rfl,hmk,hds,hne,hv,hm⟩ Jg K hJ hK;have HMK:=Lib.hid hmk;have HDS:=Lib.hid hds;have HNE:=Lib.hid hne;have HV:=Lib.hid hv;have HM:=Lib.hid hm;have HK:=Lib.hid hK;have HJ:=Lib.hid hJ;have HGOK:Hid (GOK (grf t q)):=Xfq HTOK.out HQOK.out;have HINV:Hid (Inv (grf t q) (Xb0 (grf t q) j)):=Xej HGOK.out j;have HLEN:Hid ((Xb0 (grf t q) j).2.length≤513+j * 1000000):=Xnh HTOK.out HQOK.out j;have HSTP:Hid (Xb0 (grf t q) (j+1)=Xi2 (grf t q) (Xb0 (grf t q) j)):=rfl;have HDL:Hid ((Xb0 (grf t q) j).1.length=j):=Xgt hne;have HEND:Hid ((Xb0 (grf t q) j).2 = [] → (Xb0 (grf t q) j).1=Xfn (grf t q)):=fun h=>(Xrv HGOK.out hne h).1;clear hmk hds hne hv hm hJ hK HV1 hv1;generalize hit:Xb0 (grf t q) j=s at HV HINV HLEN HSTP HDL HEND;have HIT:=Lib.hid hit;clear hit;obtain ⟨dn,op⟩:=s
    dsimp only at HV HINV HLEN HDL HEND
    obtain ⟨A1,c1,rfl,hsl1, -⟩:=Xah (E:=lbE) HV.out.ro;have p4:=HV.out.o.n0;cases op with
    | nil =>
      obtain ⟨A3,c3,rfl,-, -⟩:=Xah (E:=lbE) HV.out.rd;have d3:=HV.out.d.n0;have HLF:Hid (dn=Xfn (grf t q)):=HEND.out rfl;have HFIN:Hid (∀(W:World) (L:List Lab),L.Perm dn→W.ownsRow (n0+3) 81 4 (.slice A3 dn.length c3) L.length (L.flatMap lbE.f)→Xa5 W ds→Below n0 w W → ∃L,L.Perm (Xfn (grf t q))∧Xcz lbE L w (.returned (.slice A3 dn.length c3)) (Xcf W ds)):=fun W L hp hr hm hb=>by
       obtain ⟨A4,c4,e,hs,hc,hba⟩:=Xab (E:=lbE) (Xm3 hm hr);refine ⟨L,by rw[←HLF.out]; exact hp,A4,c4,by rw[e],hs,hc,fun a ha=>?_,?_⟩
       ·have:=hba a ha; omega
       ·rw[hn0]; exact Xbx hb HDS.out
      clear hsl1 HEND HSTP HLEN HIT
      by_cases hdn:dn = []
      ·have hd0:dn.length=0:=by rw[hdn]; rfl
       have HR1:Hid (∃L,L.Perm (Xfn (grf t q))∧Xcz lbE L w (.returned (.slice A3 dn.length c3)) (Xcf w2 ds)):=HFIN.out w2 dn (List.Perm.refl _) HV.out.rd HMK.out HV.out.be;rw[hd0] at d3 HR1;clear hdn
       gi_wp2_with fail
       refine ⟨trivial,?_⟩;refine (callsIn_wide.2 (Xkm A3 c3 _ w2)).mono ?_;rintro e w5 ⟨rfl,rfl⟩
       gi_wp2
       exact Xco (ds:=ds) HMK.out (by simp[results,Tryz.results28,go_sem]) HR1.out
      ·have HS:=Lib.hid (Xkn (n0+3) (.slice A3 dn.length c3) dn w2 HV.out.rd hdn (by have h1:=HINV.out.few; have h2:=Xjt (q:=q) HTOK.out; simp only at h1; omega))
       gi_wp2_with fail
       refine ⟨trivial,?_⟩;refine (callsIn_wide.2 HS.out).mono ?_;rintro e w5 ⟨rfl,L,hpL,hrL,hgL⟩;have HM5:Hid (Xa5 w5 ds):=HMK.out.grown hgL (Xdf HV.out.rd);have HR1:=Lib.hid (HFIN.out w5 L hpL hrL HM5.out (HV.out.be.grown hgL (by have:=HV.out.size; omega) (fun r e=>by have:=(Xbp HV.out.rd r e).1; omega)))
       have d5:w5.cell? ⟨n0+1,0,none⟩=some (.slice A3 dn.length c3):=(HV.out.d.grown hgL (Xa1 HV.out.d (by decide) HV.out.rd)).cell 0
       clear d3 HS hpL hrL hgL hdn
       gi_wp2
       exact Xco (ds:=ds) HM5.out (by simp[results,Tryz.results28,go_sem]) HR1.out
    | cons o os =>
      have HJF:Hid (j≤528):=by
       have h1:=HINV.out.few;have h2:=Xjt (q:=q) HTOK.out;rw[HDL.out] at h1;show j≤_;omega
      have HMN:=Lib.hid (Xmh A1 c1 o os w2 hsl1 (by have h1:=HLEN.out; have h2:=HJF.out; rw[List.length_cons] at h1; omega))
      have HXM:Hid (Xar o os ∈ o :: os):=Xg o os;have HFX:Hid (Fine (grf t q) (Xar o os)):=HINV.out.fine _ (List.mem_append.2 (.inr HXM.out));have HSTP2:Hid (Xb0 (grf t q) (j+1)=(dn ++ [Xar o os],((o :: os).filter fun y => !same (Xar o os) y) ++ Xew (grf t q) (dn ++ [Xar o os]) (Xar o os))):=HSTP.out;clear HSTP hsl1;generalize Xar o os=x at HMN HXM HFX HSTP2
      gi_wp2_with fail
      refine ⟨trivial,?_⟩;refine (callsIn_wide.2 HMN.out).mono ?_;rintro e w3 ⟨rfl,hb3⟩;have HV3:=Lib.hid (HV.out.below hb3);have HMK3:=Lib.hid (HMK.out.below hb3);have HOL:Hid ((o :: os).length≤530000000):=by
       have h1:=HLEN.out;have h2:=HJF.out;show _≤_;omega
      clear hb3 HMN p4 HV HMK;have HBX:Hid (Below w3.heap.size w3 (w3.alloc (.cells #[.int .i64 x.node,.int .i64 x.frm,.int .i64 x.til,.int .i64 x.time] 81))):=(Below.refl _ _).alloc (Nat.le_refl _) _;have HX4:Hid (Bk (w3.alloc (.cells #[.int .i64 x.node,.int .i64 x.frm,.int .i64 x.til,.int .i64 x.time] 81)) w3.heap.size 81 (lbA x)):=Bk.new _ _ _;have HV4:=Lib.hid ((HV3.out.protect (Nat.le_refl w3.heap.size)).below HBX.out);have HMK4:=Lib.hid (HMK3.out.below HBX.out);have p4:=HV4.out.o.n0;have hmf:=fun (fn:Fn) (first cap:Array Value) (w:World)=>(rfl:(Instr.makeFunc fn first cap).run Tryz.prog w = .ok (.func fn first cap) w)
      clear HV3 HMK3
      gi_wp2_with fail
      generalize (w3.alloc (.cells #[.int .i64 x.node,.int .i64 x.frm,.int .i64 x.til,.int .i64 x.time] 81))=w4 at HBX HX4 HV4 HMK4 p4 ⊢;generalize hXB:w3.heap.size=XB at HBX HX4 HV4 ⊢;have hxk:=HV4.out.pk XB (by simp)
      refine ⟨trivial,?_⟩;refine (callsIn_wide.2 (Xi7 XB (n0+3) x _ (o :: os) w4 HV4.out.ro HX4.out (fun e=>hxk.2.2 e.symm) ⟨x,HXM.out,Xdd x⟩ (by have:=HOL.out; omega))).mono ?_
      rintro e w5 ⟨v5,rfl,hr5,hb5,hg5⟩;generalize hFL:((o :: os).filter fun y => !same x y)=FL at hr5 HSTP2;have HFL:Hid (FL.length≤530000000):=by
       have h1:=List.length_filter_le (fun y => !same x y) (o :: os);have h2:=HOL.out;rw[hFL] at h1;show _≤_;omega
      obtain ⟨A2,c2,rfl,-, -⟩:=Xah (E:=lbE) hr5;obtain ⟨hv6,ho5⟩:=HV4.out.setO (Below.refl _ _) hg5 hr5 (.inl hb5) (fun k hk=>by rw[List.mem_singleton.1 hk]; exact HX4.out.lt)
      have HV6:=Lib.hid hv6;have HX6:Hid (Bk (w5.setCell ⟨n0+2,0,none⟩ (.slice A2 FL.length c2)) XB 81 (lbA x)):=(HX4.out.grown hg5 hxk.2.2).other (p:=⟨n0+2,0,none⟩) (by have:=hxk.1; show XB ≠ n0+2; omega) _
      have HMK6:Hid (Xa5 (w5.setCell ⟨n0+2,0,none⟩ (.slice A2 FL.length c2)) ds):=(HMK4.out.grown hg5 (Xdf HV4.out.ro)).set ho5 _;have o5:=ho5.cell 0;have f5:=ho5.free 0;simp only[List.getElem?_toArray,List.getElem?_cons_zero] at o5;obtain ⟨A3,c3,rfl,-, -⟩:=Xah (E:=lbE) HV6.out.rd;have d3:=HV6.out.d.n0;obtain ⟨x0,x1,x2,x3⟩:=HX6.out.c4;obtain ⟨i0,hi0,hz0,hz1,hz2⟩:=info_parts Xsx;have HI0:=Lib.hid (And.intro hi0 (And.intro hz0 (And.intro hz1 hz2)));have HB7:Hid (Below (w5.setCell ⟨n0+2,0,none⟩ (.slice A2 FL.length c2)).heap.size (w5.setCell ⟨n0+2,0,none⟩ (.slice A2 FL.length c2)) ((w5.setCell ⟨n0+2,0,none⟩ (.slice A2 FL.length c2)).alloc (.cells #[.int .i64 x.node,.int .i64 x.frm,.int .i64 x.til,.int .i64 x.time] 81))):=(Below.refl _ _).alloc (Nat.le_refl _) _;have HZ6:Hid (n0+3≤(w5.setCell ⟨n0+2,0,none⟩ (.slice A2 FL.length c2)).heap.size):=HV6.out.size;have HDN:Hid (dn.length≤528):=by rw[HDL.out]; exact HJF.out
      clear hFL hr5 hb5 hg5 hv6 ho5 hxk HX4 HV4 HMK4 HBX p4
      gi_wp2_with (gi_at_builtin; refine wpListIn_append_own_at _ rfl _ _ 57 rfl (n0+3) 81 i0 (.agg #[.int .i64 0,.int .i64 0,.int .i64 0,.int .i64 0]) 4 32 Tryz.underlying57 hi0 hz0 hz1 hz2 rfl (by decide) _ _ _ rfl (HV6.out.below HB7.out).rd ⟨_,0,none⟩ 1 1 [.int .i64 x.node,.int .i64 x.frm,.int .i64 x.til,.int .i64 x.time] rfl rfl ?d1 ?d2 ?d3 ?d4 ?d5 ?_)
      case d1=>exact fun j u hu=>by rw[Addr.add_mid,Nat.zero_add]; exact Xcj _ [.int .i64 x.node,.int .i64 x.frm,.int .i64 x.til,.int .i64 x.time] _ (by simp) j u hu
      case d2=>exact fun u hu=>lbE.one x u hu
      case d3=>have:=HDN.out; unfold maxLen; omega
      case d4=>have:=HDN.out; omega
      case d5=>have h1:=HZ6.out; have h2:=HB7.out.size; omega
      intro v8 w8 h8 hg8 _ hat8;have hfl:dn.flatMap lbE.f ++ [.int .i64 x.node,.int .i64 x.frm,.int .i64 x.til,.int .i64 x.time] = (dn ++ [x]).flatMap lbE.f:=by rw[List.flatMap_append]; rfl
      have hln:dn.length+1=(dn ++ [x]).length:=by rw[List.length_append]; rfl
      rw[hfl,hln] at h8;obtain ⟨A8,c8,e8,-, -⟩:=Xah (E:=lbE) h8;rw[←hln] at e8;subst e8;obtain ⟨hv9,ho8⟩:=HV6.out.setD HB7.out hg8 h8 (hat8.imp id fun e=>e.trans (by simp)) (fun k hk=>by rw[List.mem_singleton.1 hk]; exact (HX6.out.below HB7.out HX6.out.lt).lt)
      have hxk:=(HV6.out.below HB7.out).pk XB (by simp)
      have HV9:=Lib.hid hv9;have HX9:Hid (Bk (w8.setCell ⟨n0+1,0,none⟩ (.slice A8 (dn.length+1) c8)) XB 81 (lbA x)):=((HX6.out.below HB7.out HX6.out.lt).grown hg8 hxk.2.1).other (p:=⟨n0+1,0,none⟩) (by have:=hxk.1; show XB ≠ n0+1; omega) _
      have HMK9:Hid (Xa5 (w8.setCell ⟨n0+1,0,none⟩ (.slice A8 (dn.length+1) c8)) ds):=((HMK6.out.below HB7.out).grown hg8 (Xdf (HV6.out.below HB7.out).rd)).set ho8 _;have o8:=ho8.cell 0;have f8:=ho8.free 0;simp only[List.getElem?_toArray,List.getElem?_cons_zero] at o8;have y0:=HV9.out.g.n0;obtain ⟨x0,x1,x2,x3⟩:=HX9.out.c4;clear h8 hg8 hat8 hfl hln hv9 ho8 hxk HV6 HX6 HMK6 HB7 HZ6 o5 f5 d3 hi0 hz0 hz1 hz2 hmf
      gi_wp2_with fail
      generalize (w8.setCell ⟨n0+1,0,none⟩ (.slice A8 (dn.length+1) c8))=w9 at HV9 HX9 HMK9 y0 x0 x1 x2 x3 ⊢;refine ⟨trivial,?_⟩;refine (Xjg _ G x w9).mono ?_;rintro e w10 ⟨rfl,rfl⟩;obtain ⟨hbG,hbL,hbB,hbS⟩:=Xmg w9 G x;clear y0 x0 x1 x2 x3;have HVP0:=Lib.hid ((((HV9.out.forget.protect (Nat.le_refl w9.heap.size)).protect (Nat.le_succ w9.heap.size)).protect (k:=(mvW w9 G x).heap.size+2) (by omega)).below hbB)
      have HMKP:=Lib.hid (HMK9.out.below hbB);have HPS:Hid ((mvW w9 G x).heap.size=w9.heap.size+2∧n0+3≤w9.heap.size):=⟨hbS,HV9.out.size⟩;have HBG:=Lib.hid hbG;have HBL:=Lib.hid hbL;clear hbG hbL hbB hbS HV9 HMK9 HX9;generalize hwP:mvW w9 G x=wP at HVP0 HMKP HPS HBG HBL ⊢;clear hwP;have HDL2:Hid (∀D ∈ ds,D<wP.heap.size):=HMKP.out.lt
      gi_wp2_with fail
      refine Xdm rfl (by omega) (gf:=72) (lb := #[.pointer (some ⟨w9.heap.size,0,none⟩),.pointer (some ⟨w9.heap.size+1,0,none⟩)]) rfl trivial (enters_of Tryz.func72 (by kernel_rfl) rfl)
       (Xex _ (by omega) w9.heap.size (w9.heap.size+1) G t q x w wP (by rw[hn0]; exact HVP0.out.be) HBG.out HBL.out HG.out (Xmt HTOK.out HQOK.out HFX.out) (Xff HTOK.out x) (fun n r hr=>Xh1 HTOK.out HQOK.out n r hr)) KpM.trans (Xjs (by have:=HPS.out; omega)) (Below.refl _ _) (fun _=>rfl)
       (fun pre W => ∃vo,LbV n0 G w [wP.heap.size+2,w9.heap.size+1,w9.heap.size] (dn ++ [x]) (FL ++ newP q.dst (dn ++ [x]) pre) (.slice A8 (dn.length+1) c8) vo W∧Xa5 W ds)
       (fun _ _=>False)
       (fun pre y b W=>(∃vo,LbV n0 G w [wP.heap.size+2,w9.heap.size+1,w9.heap.size] (dn ++ [x]) (FL ++ newP q.dst (dn ++ [x]) pre) (.slice A8 (dn.length+1) c8) vo W∧Xa5 W ds)∧Bk W b 86 #[.int .i64 y.1.node,.int .i64 y.1.frm,.int .i64 y.1.til,.int .i64 y.1.time,.int .i64 y.2.ct,.int .i64 y.2.beg,.int .i64 y.2.fin,.int .i64 y.2.arr])
       ?oi (fun _ _ _ _ h _ _=>h) ?o1 ?bl ?h0 ?a1 ?assign ?body ?done ?stop
      case stop=>exact fun _ _ _ _ _ h _=>h.elim
      case oi =>
       rintro pre W W' row ⟨vo,k1,k2⟩ hg hr;exact ⟨vo,k1.owned (B:=wP.heap.size) (by have:=HPS.out; omega) (by omega) hg hr,k2.owned HDL2.out hg hr⟩
      case o1 =>
       rintro s W W' row ⟨⟨vo,k1,k2⟩,k3⟩ hg hr;exact ⟨⟨vo,k1.owned (B:=wP.heap.size) (by have:=HPS.out; omega) (by omega) hg hr,k2.owned HDL2.out hg hr⟩,Xa9 (β:=Unit) _ _ _ _ () _ _ row k3 hg hr⟩
      case bl =>
       rintro pre W o u ⟨vo,k1,k2⟩;exact ⟨vo,k1.blind (by simp),k2.other fun D hD=>by have:=HDL2.out D hD; omega⟩
      case h0=>exact ⟨_,by rw[show newP q.dst (dn ++ [x]) [] = [] from rfl,List.append_nil]; exact HVP0.out,HMKP.out⟩
      case assign =>
       rintro l' pre y W ⟨vo,k1,k2⟩ _ hbz hpl;have HB1:Hid (Bk (W.alloc (.cells #[.int .i64 y.1.node,.int .i64 y.1.frm,.int .i64 y.1.til,.int .i64 y.1.time,.int .i64 y.2.ct,.int .i64 y.2.beg,.int .i64 y.2.fin,.int .i64 y.2.arr] 86)) W.heap.size 86 #[.int .i64 y.1.node,.int .i64 y.1.frm,.int .i64 y.1.til,.int .i64 y.1.time,.int .i64 y.2.ct,.int .i64 y.2.beg,.int .i64 y.2.fin,.int .i64 y.2.arr]):=Bk.new _ _ _;have HBB:Hid (Below W.heap.size W (W.alloc (.cells #[.int .i64 y.1.node,.int .i64 y.1.frm,.int .i64 y.1.til,.int .i64 y.1.time,.int .i64 y.2.ct,.int .i64 y.2.beg,.int .i64 y.2.fin,.int .i64 y.2.arr] 86))):=(Below.refl _ _).alloc (Nat.le_refl _) _
       gi_wp2
       generalize W.alloc (.cells #[.int .i64 y.1.node,.int .i64 y.1.frm,.int .i64 y.1.til,.int .i64 y.1.time,.int .i64 y.2.ct,.int .i64 y.2.beg,.int .i64 y.2.fin,.int .i64 y.2.arr] 86)=W2 at HB1 HBB ⊢;refine ⟨Xaj HBB.out,KpM.of_below HBB.out (by have:=HPS.out; omega),?_⟩
       have HI:=Lib.hid (Exists.intro (p:=fun vo=>LbV n0 G w [wP.heap.size+2,w9.heap.size+1,w9.heap.size] (dn ++ [x]) (FL ++ newP q.dst (dn ++ [x]) pre) (.slice A8 (dn.length+1) c8) vo W2∧Xa5 W2 ds) vo ⟨k1.below HBB.out,k2.below HBB.out⟩);clear HBB k1 k2 hbz hpl;generalize W.heap.size=b at HB1 ⊢;refine ⟨b,?_,HI.out,HB1.out⟩
       rfl
      case body =>
       rintro l' pre y b W ⟨⟨vo,k1,k2⟩,k3⟩ hsp hbz hpl;have HV:=Lib.hid k1;have HMK:=Lib.hid k2;have HMB:=Lib.hid k3;have HSP:=Lib.hid hsp;have HBZ:=Lib.hid hbz;have HPL:=Lib.hid hpl;obtain ⟨A7,c7,rfl,-, -⟩:=Xah (E:=lbE) k1.ro;clear k1 k2 k3 hsp hbz hpl;have HSB:Hid (∀w',Below W.heap.size W w' → (w'.cell? ⟨b,0,none⟩=some (.int .i64 y.1.node)∧w'.cell? ⟨n0,0,none⟩=some (.pointer (some ⟨G,0,none⟩))∧w'.cell? ⟨G,5,none⟩=some (.int .i64 q.dst)∧w'.cell? ⟨n0+1,0,none⟩=some (.slice A8 (dn.length+1) c8))):=fun w' hb=>by
        have h0:=HMB.out.below hb HMB.out.lt;have h1:=HV.out.below hb;exact ⟨h0.cell 0,h1.g.cell 0,(HGI.out w' h1.be).2.2.2.1,h1.d.cell 0⟩
       have HOTH:Hid (∀w',Below W.heap.size W w' → newP q.dst (dn ++ [x]) (pre ++ [y])=newP q.dst (dn ++ [x]) pre→KeepsOthers W w' ∧ KpM w.heap.size w9.heap.size (w9.heap.size+1) W w' ∧ ∃vo,LbV n0 G w [wP.heap.size+2,w9.heap.size+1,w9.heap.size] (dn ++ [x]) (FL ++ newP q.dst (dn ++ [x]) (pre ++ [y])) (.slice A8 (dn.length+1) c8) vo w' ∧ Xa5 w' ds):=fun w' hb he=>by
        rw[he];exact ⟨Xaj hb,KpM.of_below hb (by have:=HV.out.size; omega),_,HV.out.below hb,HMK.out.below hb⟩
       gi_wp2_with fail
       by_cases hd:y.1.node=q.dst
       ·have d1:(y.1.node != q.dst)=false:=by simpa using hd
        have HD:=Lib.hid hd;clear hd;refine Xcs (S:=fun w' => (w'.cell? ⟨b,0,none⟩=some (.int .i64 y.1.node)∧w'.cell? ⟨n0,0,none⟩=some (.pointer (some ⟨G,0,none⟩))∧w'.cell? ⟨G,5,none⟩=some (.int .i64 q.dst)∧w'.cell? ⟨n0+1,0,none⟩=some (.slice A8 (dn.length+1) c8))) (by kernel_rfl) (by kernel_rfl) (HSB.out _ (Below.refl _ _).drew) (fun hHeld=>?_)
        refine tkL 0 _ ?_;refine tkL 1 _ ?_;refine tkL 2 (.int .i64 y.1.node) ?_;refine tkL 3 _ ?_;refine tkL 4 _ ?_;refine tkL 5 _ ?_;refine tkL 6 _ ?_;refine tkL 7 (.int .i64 q.dst) ?_;refine tkL 8 (.bool false) ?_;refine tkL 9 (.bool false) ?_;refine tkL 10 undef ?_ (hy:=.inr ⟨by rfl,rfl⟩)
        refine tkL 11 undef ?_ (hy:=.inr ⟨by rfl,rfl⟩)
        refine tkL 12 undef ?_ (hy:=.inr ⟨by rfl,rfl⟩)
        refine tkL 13 undef ?_ (hy:=.inr ⟨by rfl,rfl⟩)
        refine tkL 14 (.bool false) ?_;refine Xi6 (by kernel_rfl) ?_
        clear hHeld d1
        gi_wp2
        exact HOTH.out _ (Below.refl _ _).drew (Xq1 (.inl HD.out))
       ·have d1:(y.1.node != q.dst)=true:=by simpa using hd
        have HD:=Lib.hid hd;have hmf:=fun (fn:Fn) (first cap:Array Value) (w:World)=>(rfl:(Instr.makeFunc fn first cap).run Tryz.prog w = .ok (.func fn first cap) w)
        have HCF:Hid (∀w',Below W.heap.size W w' → Calls Tryz.prog 69 #[.slice A8 (dn.length+1) c8,.func (.func 70) #[] #[.pointer (some ⟨b,0,none⟩)]] w' (Xap (∃z ∈ dn ++ [x],same y.1 z=true) w')):=fun w' hb=>by
         obtain ⟨A'',c'',e,hs, -⟩:=Xah (E:=lbE) (HV.out.below hb).rd;have hm:=HMB.out.below hb HMB.out.lt
         injection e with e1 e2 e3
         subst e1;have h:=Xqa A8 c8 (dn ++ [x]) b (fun z=>same y.1 z=true) w' hs (by have:=HDN.out; simp; omega) (fun z _ w'' hb2=>Xml b y.1 z y.2 w'' (hm.below hb2 hm.lt))
         rw[show (dn ++ [x]).length=dn.length+1 by simp] at h
         exact h
        clear hd;refine Xcs (S:=fun w' => (w'.cell? ⟨b,0,none⟩=some (.int .i64 y.1.node)∧w'.cell? ⟨n0,0,none⟩=some (.pointer (some ⟨G,0,none⟩))∧w'.cell? ⟨G,5,none⟩=some (.int .i64 q.dst)∧w'.cell? ⟨n0+1,0,none⟩=some (.slice A8 (dn.length+1) c8))) (by kernel_rfl) (by kernel_rfl) (HSB.out _ (Below.refl _ _).drew) (fun hHeld=>?_)
        refine tkL 0 _ ?_;refine tkL 1 _ ?_;refine tkL 2 (.int .i64 y.1.node) ?_;refine tkL 3 _ ?_;refine tkL 4 _ ?_;refine tkL 5 _ ?_;refine tkL 6 _ ?_;refine tkL 7 (.int .i64 q.dst) ?_;refine tkL 8 (.bool true) ?_;refine tkL 9 (.bool true) ?_;refine tkL 10 (.slice A8 (dn.length+1) c8) ?_;refine tkL 11 (.func (.func 70) #[] #[.pointer (some ⟨b,0,none⟩)]) ?_;refine Xat (i:=12) rfl (by kernel_rfl) (by rfl) (fun K hK=>?_)
        go_simp;refine (HCF.out _ (Below.refl _ _).drew).mono ?_;rintro e w6 ⟨v,rfl,hv,hb6⟩;have HB6:Hid (Below W.heap.size W w6):=(Below.refl W.heap.size W).drew.trans hb6;refine hK _ _ (HSB.out _ HB6.out) (fun hHeld=>?_);have HVV:=Lib.hid hv;clear hK K hb6 hv
        try simp only[PU]
        cases v with
        | true =>
          have HE:=Lib.hid (HVV.out.1 rfl);refine tkL 13 (.bool false) ?_;refine tkL 14 (.bool false) ?_;refine Xi6 (by kernel_rfl) ?_
          clear hHeld d1 hmf
          gi_wp2
          obtain ⟨h1,h2,vo',h3,h4⟩:=HOTH.out _ HB6.out (Xq1 (.inr HE.out))
          first | exact ⟨h1,h2,vo',h3,h4⟩ | (rw[hn0] at h2; exact ⟨h1,h2,⟨vo',h3⟩,h4⟩)
        | false =>
          have HE:Hid (newP q.dst (dn ++ [x]) (pre ++ [y])=newP q.dst (dn ++ [x]) pre ++ [y.1]):=Xrn HD.out fun z hz=>by
           cases h:same y.1 z with
           | false=>rfl
           | true=>have:=HVV.out.2 ⟨z,hz,h⟩; cases this
          refine tkL 13 (.bool true) ?_;refine tkL 14 (.bool true) ?_;refine Xi6 (by kernel_rfl) ?_
          clear hHeld d1 hmf HVV;have HV6:=Lib.hid (HV.out.below HB6.out);have HM6:=Lib.hid (HMB.out.below HB6.out HMB.out.lt);have HMK6:=Lib.hid (HMK.out.below HB6.out);have o6:=HV6.out.o.n0;have m0:=HM6.out.c4;have HLQ:Hid ((FL ++ newP q.dst (dn ++ [x]) pre).length≤531000000):=by
           have h1:=HFL.out;have h2:=Xro q.dst (dn ++ [x]) pre;have h3:=HPL.out;show _≤_;rw[List.length_append];omega
          have HB7:Hid (Below w6.heap.size w6 (w6.alloc (.cells #[.int .i64 y.1.node,.int .i64 y.1.frm,.int .i64 y.1.til,.int .i64 y.1.time] 81))):=(Below.refl _ _).alloc (Nat.le_refl _) _;have HB67:Hid (Below W.heap.size W (w6.alloc (.cells #[.int .i64 y.1.node,.int .i64 y.1.frm,.int .i64 y.1.til,.int .i64 y.1.time] 81))):=Xa HB6.out HB7.out;obtain ⟨hi0,hz0,hz1,hz2⟩:=HI0.out;generalize hO:FL ++ newP q.dst (dn ++ [x]) pre=O at o6 HLQ HV6
          gi_wp2_with (gi_at_builtin; refine wpListIn_append_own_at _ rfl _ _ 57 rfl (n0+3) 81 i0 (.agg #[.int .i64 0,.int .i64 0,.int .i64 0,.int .i64 0]) 4 32 Tryz.underlying57 hi0 hz0 hz1 hz2 rfl (by decide) _ _ _ rfl (HV6.out.below HB7.out).ro ⟨_,0,none⟩ 1 1 [.int .i64 y.1.node,.int .i64 y.1.frm,.int .i64 y.1.til,.int .i64 y.1.time] rfl rfl ?d1 ?d2 ?d3 ?d4 ?d5 ?_)
          case d1=>exact fun j u hu=>by rw[Addr.add_mid,Nat.zero_add]; exact Xcj _ [.int .i64 y.1.node,.int .i64 y.1.frm,.int .i64 y.1.til,.int .i64 y.1.time] _ (by simp) j u hu
          case d2=>exact fun u hu=>lbE.one y.1 u hu
          case d3=>have:=HLQ.out; unfold maxLen; omega
          case d4=>have:=HLQ.out; omega
          case d5=>have h1:=HV6.out.size; have h2:=HB7.out.size; omega
          intro v8 w8 h8 hg8 _ hat8;have hfl:O.flatMap lbE.f ++ [.int .i64 y.1.node,.int .i64 y.1.frm,.int .i64 y.1.til,.int .i64 y.1.time] = (O ++ [y.1]).flatMap lbE.f:=by rw[List.flatMap_append]; rfl
          have hln:O.length+1=(O ++ [y.1]).length:=by rw[List.length_append]; rfl
          rw[hfl,hln] at h8;obtain ⟨A9,c9,e9,-, -⟩:=Xah (E:=lbE) h8;rw[←hln] at e9;subst e9;subst hO;have hpk:∀k ∈ [wP.heap.size+2,w9.heap.size+1,w9.heap.size],k<(w6.alloc (.cells #[.int .i64 y.1.node,.int .i64 y.1.frm,.int .i64 y.1.til,.int .i64 y.1.time] 81)).heap.size:=fun k hk=>by
           have h1:=HB67.out.size;have h2:=HBZ.out;have h3:=HPS.out;simp only[List.mem_cons,List.not_mem_nil,or_false] at hk;omega
          have hat9:=hat8.imp id fun e=>e.trans (show some _=some (w6.alloc (.cells #[.int .i64 y.1.node,.int .i64 y.1.frm,.int .i64 y.1.til,.int .i64 y.1.time] 81)).heap.size by simp)
          obtain ⟨hv9,ho8⟩:=HV.out.setO HB67.out hg8 h8 hat9 hpk;have HV9:=Lib.hid hv9;have HK9:=Lib.hid (HV.out.kp (n₀:=w.heap.size) (BG:=w9.heap.size) (BL:=w9.heap.size+1) (v':=.slice A9 ((FL ++ newP q.dst (dn ++ [x]) pre).length+1) c9) HB67.out hg8 (by omega) (by simp) (by simp))
          have HO9:=Lib.hid (HV.out.keeps (v':=.slice A9 ((FL ++ newP q.dst (dn ++ [x]) pre).length+1) c9) HB67.out hg8);have HM9:=Lib.hid (((HMK6.out.below HB7.out).grown hg8 (Xdf (HV.out.below HB67.out).ro)).set (i:=0) ho8 (.slice A9 ((FL ++ newP q.dst (dn ++ [x]) pre).length+1) c9));have o8:=ho8.cell 0;have f8:=ho8.free 0;simp only[List.getElem?_toArray,List.getElem?_cons_zero] at o8;clear h8 hg8 hat8 hat9 hpk hfl hln hv9 ho8 hi0 hz0 hz1 hz2 o6 m0;simp only[List.length_append] at HV9 HK9 HO9 HM9
          gi_wp2
          have hv9:=HV9.out;rw[List.append_assoc, ←HE.out] at hv9;have hk9:=HK9.out
          first | exact ⟨HO9.out,hk9,_,hv9,HM9.out⟩ | (rw[hn0] at hk9; exact ⟨HO9.out,hk9,⟨_,hv9⟩,HM9.out⟩)
      case done =>
       rintro D xs W hD rfl ⟨vo,k1,k2⟩ hDD
       (try simp only[Exit.inBlock,Exit.then])
       have hjk:j≤keyN (grf t q):=by have h1:=HINV.out.few; rw[HDL.out] at h1; exact h1
       have hmm:=HM.out;have hv10:LbV n0 G w [] (Xb0 (grf t q) (j+1)).1 (Xb0 (grf t q) (j+1)).2 (.slice A8 (dn.length+1) c8) vo W:=by
        rw[HSTP2.out];exact k1.forget
       have hds10:∀E ∈ D :: ds,n0≤E:=by
        intro E hE;rcases List.mem_cons.1 hE with e | e
        ·rw[e]; have:=HPS.out; omega
        ·exact HDS.out E e
       have hne10:∀i<j+1,(Xb0 (grf t q) i).2 ≠ []:=by
        intro i hi
        by_cases hij:i<j
        ·exact HNE.out i hij
        ·have:i=j:=by omega
         rw[this,HIT.out];simp
       have hmk10:Xa5 W (D :: ds):=k2.cons hDD (fun h=>by have:=HDL2.out D h; omega)
       exact HK.out _ _ ⟨m - 1,by omega,HJ.out _ _ _ ⟨_,_,_,_,_,_,_,_,_,_,_,_,_,_,_,_,D :: ds,_,vo,j+1,rfl,hmk10,hds10,hne10,hv10,by omega⟩⟩
end Go.Proofs.YtebkgbmijocdjaaGreat.Tp
