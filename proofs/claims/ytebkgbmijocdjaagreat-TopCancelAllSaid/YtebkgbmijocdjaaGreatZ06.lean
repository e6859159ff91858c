/- A part of the proof for the ledger. No condition beyond those that each theorem states. -/
import Derived.Test.YtebkgbmijocdjaaGreatZ04
set_option maxHeartbeats 32000000
set_option maxRecDepth 100000
set_option linter.unusedVariables false
set_option linter.unusedSimpArgs false
namespace Go.Proofs.YtebkgbmijocdjaaGreat.Tp
open Go Go.RowKit
def Xcz {α:Type}(E:Enc α)(L:List α)(w:World)(e:Ending)(w':World):Prop:=∃A c,e = .returned (.slice A L.length c)∧SlAt E w' A L∧L.length≤c∧(∀a,A=some a→w.heap.size≤a.block)∧Below w.heap.size w w'
theorem Xab {α:Type}{E:Enc α}{w:World}{base:Nat}{t:TypeId}{v:Value}{L:List α}(h:w.ownsRow base t E.k v L.length (L.flatMap E.f)):∃A c,v = .slice A L.length c∧SlAt E w A L∧L.length≤c ∧ ∀a,A=some a→base≤a.block:=by
 obtain ⟨A,c,rfl,h1,h2⟩:=Xah h;refine ⟨A,c,rfl,h1,h2,fun a ha=>?_⟩;rcases h.2 with ⟨e,_⟩ | ⟨g,cap,cur,e,hb,_⟩
 ·simp only[Value.slice.injEq] at e;rw[e.1] at ha;cases ha
 ·simp only[Value.slice.injEq] at e;rw[e.1] at ha;cases ha;exact hb
theorem Xmp:(Tryz.prog.info? 142).map (fun i=>(i.zero,i.size,i.bytes))=some (some (.agg #[.int .i64 0,.int .i64 0]),2,16):=by kernel_rfl
theorem Xcj (W:World)(cs:List Value)(t:TypeId){b:Nat}(hb:b=W.heap.size):∀(j:Nat)(u:Value),cs[j]? = some u→(W.alloc (.cells cs.toArray t)).cell? ⟨b,j,none⟩=some u:=by
 intro j u hu;rw[hb,World.cell?_alloc_new];simpa using hu
def Xb3 (l:List Bkg)(c:Int):List Spn:=(l.filter fun b=>decide (b.ct=c)).map fun b=>⟨b.beg,b.fin⟩
theorem Xox (L:List Bkg)(r:Bkg)(c:Int):Xb3 (L ++ [r]) c=Xb3 L c ++ (if r.ct=c then [⟨r.beg,r.fin⟩] else []):=by
 unfold Xb3;rw[List.filter_append,List.map_append]
 by_cases h:r.ct=c
 ·simp[List.filter_cons,h]
 ·simp[h]
theorem Xhv (L:List Bkg)(c:Int):(Xb3 L c).length≤L.length:=by
 unfold Xb3;rw[List.length_map];exact List.length_filter_le _ _
theorem Xsa (B:Option Addr)(cb:Nat)(l:List Bkg)(c:Int)(w:World)(hl:SlAt bkE w B l)(hln:l.length≤100000) :
  Calls Tryz.prog 89 #[.slice B l.length cb,.int .i64 c] w (Xcz spE (Xb3 l c) w):=by
 have HL:=Lib.hid hl;obtain ⟨i0,hi0,hz0,hz1,hz2⟩:=info_parts Xmp;have HI:=Lib.hid (And.intro hi0 (And.intro hz0 (And.intro hz1 hz2)));clear hl hi0 hz0 hz1 hz2;go_enter Tryz.func89,Tryz.ntmps89;go_wp2;go_loopw [5,7,10] (fun v _ i wr => ∃k:Nat,k≤l.length∧i = .int .i64 k∧Below w.heap.size w wr∧wr.ownsRow w.heap.size 142 2 v (Xb3 (l.take k) c).length ((Xb3 (l.take k) c).flatMap spE.f)) (fun _ _ i _=>l.length - (intOf i).toNat)
 case atStart=>exact ⟨0,Nat.zero_le _,rfl,Below.refl _ _,rfl,.inl ⟨rfl,rfl⟩⟩
 case round =>
  obtain ⟨k,hk,rfl,hbw,hov⟩:=hrel;have HB:=Lib.hid hbw;have HO:=Lib.hid hov;clear hbw hov
  by_cases hlt:k<l.length
  ·obtain ⟨b,off,rfl,hr⟩:=(HL.out.below HB.out).one (by omega)
   obtain ⟨r,hrk⟩:∃r,l[k]? = some r:=⟨_,List.getElem?_eq_getElem hlt⟩;have hrg:wr.rangeAt b (off+k * 4) (bkE.f r):=hr k r hrk;obtain ⟨c0,c1,c2,c3⟩:=Tp.rgBk hrg;have HS:Hid (Xb3 (l.take (k+1)) c=Xb3 (l.take k) c ++ (if r.ct=c then [⟨r.beg,r.fin⟩] else [])):=by
    show _=_;rw[take_snoc hrk]; exact Xox _ _ _
   have hbl:(Xb3 (l.take k) c).length≤100000:=Nat.le_trans (Xhv _ _) (by rw[List.length_take]; omega)
   clear hr hrk hrg;generalize Xb3 (l.take k) c=M at HO HS hbl
   by_cases hc:r.ct=c
   ·have e1:(r.ct == c)=true:=by simpa using hc
    have HF:Hid (Xb3 (l.take (k+1)) c=M ++ [⟨r.beg,r.fin⟩]):=by show _=_; rw[HS.out,if_pos hc]
    have HBN:Hid (Below w.heap.size w (wr.alloc (.cells (bkA r) 95))):=HB.out.alloc HB.out.size _;have HON:Hid ((wr.alloc (.cells (bkA r) 95)).ownsRow w.heap.size 142 2 u5 M.length (M.flatMap spE.f)):=HO.out.alloc _;clear HS hc HO HB;obtain ⟨hi0,hz0,hz1,hz2⟩:=HI.out;go_wp2_with (at_builtin; refine wpList_append_own_at _ rfl _ _ 136 rfl w.heap.size 142 i0 (.agg #[.int .i64 0,.int .i64 0]) 2 16 Tryz.underlying136 hi0 hz0 hz1 hz2 rfl (by decide) _ _ _ rfl (HON.out.alloc _) ⟨wr.heap.size+1,0,none⟩ 1 1 [.int .i64 r.beg,.int .i64 r.fin] rfl rfl ?d1 ?d2 ?d3 ?d4 ?d5 ?_)
    case d1=>exact fun j u hu=>by rw[Addr.add_mid,Nat.zero_add]; exact Xcj _ [.int .i64 r.beg,.int .i64 r.fin] _ (by simp) j u hu
    case d2=>exact fun u hu=>spE.one ⟨r.beg,r.fin⟩ u hu
    case d3=>unfold maxLen; omega
    case d4=>omega
    case d5=>have:=HBN.out.size; simp at this ⊢; omega
    intro v' w4 hown' hg' _ _;have HB4:Hid (Below w.heap.size w w4):=(HBN.out.alloc HBN.out.size _).grown hg' (by have:=HBN.out.size; simp at this ⊢; omega) (fun j hj=>(HON.out.lt j hj).1)
    have HO4:Hid (w4.ownsRow w.heap.size 142 2 v' (Xb3 (l.take (k+1)) c).length ((Xb3 (l.take (k+1)) c).flatMap spE.f)):=by
     show w4.ownsRow _ _ _ _ _ _;rw[HF.out,List.length_append,List.flatMap_append,show [(⟨r.beg,r.fin⟩:Spn)].flatMap spE.f = [.int .i64 r.beg,.int .i64 r.fin] from rfl];exact hown'
    clear hown' hg' hi0 hz0 hz1 hz2;go_wp2;go_roundw
    case rel=>exact ⟨k+1,by omega,by go_num,HB4.out,HO4.out⟩
    case measure=>simp[intOf]; omega
   ·have e1:(r.ct == c)=false:=by simpa using hc
    have HF:Hid (Xb3 (l.take (k+1)) c=M):=by show _=_; rw[HS.out,if_neg hc,List.append_nil]
    have HBN:Hid (Below w.heap.size w (wr.alloc (.cells (bkA r) 95))):=HB.out.alloc HB.out.size _;have HON:Hid ((wr.alloc (.cells (bkA r) 95)).ownsRow w.heap.size 142 2 u5 (Xb3 (l.take (k+1)) c).length ((Xb3 (l.take (k+1)) c).flatMap spE.f)):=by rw[HF.out]; exact HO.out.alloc _
    clear HS hc HO HB HF;go_wp2;go_roundw
    case rel=>exact ⟨k+1,by omega,by go_num,HBN.out,HON.out⟩
    case measure=>simp[intOf]; omega
  ·have HO2:Hid (wr.ownsRow w.heap.size 142 2 u5 (Xb3 l c).length ((Xb3 l c).flatMap spE.f)):=by
    have h:=HO.out
    rwa [List.take_of_length_le (by omega)] at h
   obtain ⟨A1,c1,rfl,hs1,hc1,hbk⟩:=Xab (E:=spE) HO2.out;have HS1:=Lib.hid hs1;have HBK:=Lib.hid hbk;clear hs1 hbk HO HO2;go_wp2;go_ret;exact ⟨A1,c1,rfl,HS1.out,hc1,HBK.out,HB.out⟩
def gapL (a t:Int):List Spn:=if a<t then [⟨a,t⟩] else []
def Xu0 (g1 g2 base:Nat)(v:Value)(M:List Spn)(a t:Int)(w:World)(e:Ending)(w':World):Prop:=e = .returned (.tuple #[]) ∧ ∃v',Boxed w' g1 3 (.int .i64 a)∧Boxed w' g2 136 v' ∧ w'.ownsRow base 142 2 v' (M ++ gapL a t).length ((M ++ gapL a t).flatMap spE.f)∧w.heap.size≤w'.heap.size∧(∀j,j<w.heap.size→j ≠ g2→v.ownBlock ≠ some j→w'.heap[j]? = w.heap[j]?) ∧ ∀b0,b0≤base→b0≤g2→Below b0 w w'
theorem add_any (g1 g2 base:Nat)(M:List Spn)(a t:Int)(v:Value)(w:World)(h1:Boxed w g1 3 (.int .i64 a))(h2:Boxed w g2 136 v)(h3:w.ownsRow base 142 2 v M.length (M.flatMap spE.f))(hb:base≤w.heap.size)(hM:M.length≤100000) :
  Calls Tryz.prog 169 #[.int .i64 t,.pointer (some ⟨g1,0,none⟩),.pointer (some ⟨g2,0,none⟩)] w (Xu0 g1 g2 base v M a t w):=by
 have c1:=h1.cell;have c2:=h2.cell;have f2:=h2.frozen;have H1:=Lib.hid h1;have H2:=Lib.hid h2;have H3:=Lib.hid h3;obtain ⟨i0,hi0,hz0,hz1,hz2⟩:=info_parts Xmp;have HI:=Lib.hid (And.intro hi0 (And.intro hz0 (And.intro hz1 hz2)));clear h1 h2 h3 hi0 hz0 hz1 hz2
 by_cases hat:a<t
 ·have HG:Hid (gapL a t = [⟨a,t⟩]):=by show _=_; unfold gapL; rw[if_pos hat]
  obtain ⟨hi0,hz0,hz1,hz2⟩:=HI.out;go_enter Tryz.func169,Tryz.ntmps169;go_wp2_with (at_builtin; refine wpList_append_own_at _ rfl _ _ 136 rfl base 142 i0 (.agg #[.int .i64 0,.int .i64 0]) 2 16 Tryz.underlying136 hi0 hz0 hz1 hz2 rfl (by decide) _ _ _ rfl (H3.out.alloc _) ⟨w.heap.size,0,none⟩ 1 1 [.int .i64 a,.int .i64 t] rfl rfl ?d1 ?d2 ?d3 ?d4 ?d5 ?_)
  case d1=>exact fun j u hu=>by rw[Addr.add_mid,Nat.zero_add]; exact Xcj _ [.int .i64 a,.int .i64 t] _ rfl j u hu
  case d2=>exact fun u hu=>spE.one ⟨a,t⟩ u hu
  case d3=>unfold maxLen; omega
  case d4=>omega
  case d5=>simp; omega
  intro v' w4 hown' hg' _ _;have hown2:w4.ownsRow base 142 2 v' (M ++ gapL a t).length ((M ++ gapL a t).flatMap spE.f):=by
   rw[HG.out,List.length_append,List.flatMap_append,show [(⟨a,t⟩:Spn)].flatMap spE.f = [.int .i64 a,.int .i64 t] from rfl];exact hown'
  have hrb:∀j,v.ownBlock=some j→base≤j:=fun j hj=>(H3.out.lt j hj).1;have x1:Boxed w4 g2 136 v:=(H2.out.alloc _).kept hg' (H2.out.not_row (by decide) H3.out)
  have x2:Boxed (w4.setCell ⟨g2,0,none⟩ v') g2 136 v':=x1.set v';have x3:(w4.setCell ⟨g2,0,none⟩ v').ownsRow base 142 2 v' (M ++ gapL a t).length ((M ++ gapL a t).flatMap spE.f):=hown2.kept (grownBy_setCell' w4 g2 v') (.inr (x1.not_row (by decide) hown2).symm)
  have x6:w.heap.size≤(w4.setCell ⟨g2,0,none⟩ v').heap.size:=by have:=hg'.size; simp at this ⊢; omega
  have x7:∀j,j<w.heap.size→j ≠ g2→v.ownBlock ≠ some j→(w4.setCell ⟨g2,0,none⟩ v').heap[j]? = w.heap[j]? := by
   intro j hj hne hno;rw[Below.heap_setCell w4 ⟨g2,0,none⟩ v' j hne];rw[hg'.block j (by simp; omega) (fun e=>hno e.symm)]
   exact Below.heap_alloc w _ j hj
  have x8:∀b0,b0≤base→b0≤g2→Below b0 w (w4.setCell ⟨g2,0,none⟩ v'):=fun b0 h1 h2 =>
   (((Below.refl b0 w).alloc (by omega) _).grown hg' (by simp; omega) (fun j hj=>Nat.le_trans h1 (hrb j hj))).setCell (p:=⟨g2,0,none⟩) h2 v'
  have x5:=And.intro x6 (And.intro x7 x8);have y1:Boxed (w4.setCell ⟨g2,0,none⟩ v') g1 3 (.int .i64 a):=by
   have hne:g1 ≠ g2:=by
    intro e;have h1:=H1.out;rw[e] at h1;have:=(show w.heap[g2]? = some _ from h1).symm.trans H2.out;simp at this
   have:Boxed w4 g1 3 (.int .i64 a):=(H1.out.alloc _).kept hg' (H1.out.not_row (by decide) H3.out)
   exact this.kept (grownBy_setCell' w4 g2 v') (fun e=>hne (by simpa using e))
  obtain ⟨A4,k4,rfl,_,_⟩:=Xah (E:=spE) hown2;have c2':=x1.cell;have f2':=x1.frozen;have HX:=Lib.hid (And.intro y1 (And.intro x2 (And.intro x3 x5)));clear hown' hg' hown2 x1 x2 x3 x5 x6 x7 x8 y1 c1 c2 f2 hi0 hz0 hz1 hz2 hrb;go_wp2;go_end0;refine ⟨rfl,.slice A4 (M ++ gapL a t).length k4,?_⟩;have h:=HX.out;rw[List.length_append] at h ⊢;exact h
 ·have HG:Hid (gapL a t = []):=by show _=_; unfold gapL; rw[if_neg hat]
  go_enter Tryz.func169,Tryz.ntmps169;go_wp2;go_end0;refine ⟨rfl,v,H1.out,H2.out,?_,Nat.le_refl _,fun _ _ _ _=>rfl,fun _ _ _=>Below.refl _ _⟩;rw[HG.out,List.append_nil];exact H3.out
def Xbo:Int→List Spn→List Spn × Int
 | a, [] => ([],a)
 | a,x :: l=>(gapL a x.frm ++ (Xbo (max a x.til) l).1,(Xbo (max a x.til) l).2)
theorem Xip:∀(a:Int)(L:List Spn)(x:Spn),Xbo a (L ++ [x])=((Xbo a L).1 ++ gapL (Xbo a L).2 x.frm,max (Xbo a L).2 x.til)
 | a, [],x=>by simp[Xbo]
 | a,y :: L,x=>by simp[Xbo,Xip (max a y.til) L x]
def Xg5 (c:Ct)(busy:List Spn)(from_:Int):List Spn:=(Xbo (max c.beg from_) busy).1 ++ gapL (Xbo (max c.beg from_) busy).2 c.fin
theorem Xnm (a t:Int):(gapL a t).length≤1:=by unfold gapL; split <;> simp
theorem Xhm:∀(a:Int)(L:List Spn),(Xbo a L).1.length≤L.length
 | _, [] => Nat.le_refl _
 | a,x :: L=>by
   have h1:=Xhm (max a x.til) L;have h2:=Xnm a x.frm;simp only[Xbo,List.length_append,List.length_cons];omega
end Go.Proofs.YtebkgbmijocdjaaGreat.Tp
