/- A part of the proof for the ledger. No condition beyond those that each theorem states. -/
import Derived.Test.YtebkgbmijocdjaaGreatZ25
set_option maxHeartbeats 32000000
set_option maxRecDepth 100000
set_option linter.unusedVariables false
set_option linter.unusedSimpArgs false
namespace Go.Proofs.YtebkgbmijocdjaaGreat.Tp
open Go Go.RowKit
theorem Xiq (x:Hop):∀(L:List Hop)(a:Nat)(r:List Value),a<L.length→((((L.flatMap hpE.f ++ r).set (a * 4) (.int .i64 x.ct)).set (a * 4+1) (.int .i64 x.beg)).set (a * 4+2) (.int .i64 x.fin)).set (a * 4+3) (.int .i64 x.arr)=(L.set a x).flatMap hpE.f ++ r
 | [],a,r,h=>by simp at h
 | y :: L,0,r,_=>rfl
 | y :: L,a+1,r,h=>by
   have ih:=Xiq x L a r (by simpa using h)
   have e:∀j,(a+1) * 4+j=(a * 4+j)+1+1+1+1:=fun j=>by omega
   rw[List.set_cons_succ,show ((a+1) * 4)=(a * 4)+1+1+1+1 by omega,show ((y :: L).flatMap hpE.f ++ r) = .int .i64 y.ct :: .int .i64 y.beg :: .int .i64 y.fin :: .int .i64 y.arr :: (L.flatMap hpE.f ++ r) from rfl,
    show ((y :: L.set a x).flatMap hpE.f ++ r) = .int .i64 y.ct :: .int .i64 y.beg :: .int .i64 y.fin :: .int .i64 y.arr :: ((L.set a x).flatMap hpE.f ++ r) from rfl, ←ih]
   have f:∀j,(a * 4)+1+1+1+1+j=(a * 4+j)+1+1+1+1:=fun j=>by omega
   simp only[f,List.set_cons_succ]
def RowH (w:World)(g cap:Nat)(L:List Hop):Prop:=∃r:List Value,Bk w g 41 (L.flatMap hpE.f ++ r).toArray∧L.length * 4+r.length=cap * 4
theorem RowH.put {w:World}{g cap a:Nat}{L:List Hop}(h:RowH w g cap L)(ha:a<L.length)(x:Hop) :
  RowH ((((w.setCell ⟨g,a * 4,none⟩ (.int .i64 x.ct)).setCell ⟨g,a * 4+1,none⟩ (.int .i64 x.beg)).setCell ⟨g,a * 4+2,none⟩ (.int .i64 x.fin)).setCell ⟨g,a * 4+3,none⟩ (.int .i64 x.arr)) g cap (L.set a x):=by
 obtain ⟨r,hb,hr⟩:=h;refine ⟨r,?_,by rw[List.length_set]; exact hr⟩
 have h4:=(((hb.put (a * 4) (.int .i64 x.ct)).put (a * 4+1) (.int .i64 x.beg)).put (a * 4+2) (.int .i64 x.fin)).put (a * 4+3) (.int .i64 x.arr);simp only[List.setIfInBounds_toArray] at h4
 rwa [Xiq x L a r ha] at h4
theorem RowH.cells {w:World}{g cap:Nat}{L:List Hop}(h:RowH w g cap L){k:Nat}{x:Hop}(hk:L[k]? = some x):w.rangeAt g (k * 4) (hpE.f x):=by
 obtain ⟨r,hb,hr⟩:=h;intro j v hj;have h1:=flat_get (E:=hpE) L k x hk j v hj;have hlt:k * 4+j<(L.flatMap hpE.f).length:=(List.getElem?_eq_some_iff.1 h1).1;rw[hb.cell,List.getElem?_toArray,List.getElem?_append_left hlt];exact h1
theorem RowH.free {w:World}{g cap:Nat}{L:List Hop}(h:RowH w g cap L)(i:Nat):w.frozen? ⟨g,i,none⟩=false:=by
 obtain ⟨r,hb,hr⟩:=h;exact hb.free i
theorem RowH.grown {w w':World}{g cap:Nat}{L:List Hop}(h:RowH w g cap L){row:Option Nat}(hg:w.grownBy w' row)(hn:some g ≠ row):RowH w' g cap L:=by
 obtain ⟨r,hb,hr⟩:=h;exact ⟨r,hb.grown hg hn,hr⟩
theorem RowH.below {w w':World}{g cap:Nat}{L:List Hop}(h:RowH w g cap L)(hb:Below w.heap.size w w'):RowH w' g cap L:=by
 obtain ⟨r,hb',hr⟩:=h;exact ⟨r,hb'.below hb hb'.lt,hr⟩
theorem RowH.lt {w:World}{g cap:Nat}{L:List Hop}(h:RowH w g cap L):g<w.heap.size:=by
 obtain ⟨r,hb,hr⟩:=h;exact hb.lt
theorem Xtb {w:World}{base:Nat}{v:Value}{L:List Hop}(h:w.ownsRow base 41 4 v L.length (L.flatMap hpE.f))(hL:L ≠ []):∃g cap,v = .slice (some ⟨g,0,none⟩) L.length cap∧base≤g∧L.length≤cap∧cap≤maxLen∧RowH w g cap L:=by
 obtain ⟨hl,h | ⟨g,cap,cur,rfl,hb,hg,hn,hm,hc,ht⟩⟩:=h
 ·exact absurd (List.eq_nil_of_length_eq_zero h.2) hL
 ·refine ⟨g,cap,rfl,hb,hn,hm,cur.toList.drop (L.length * 4),?_,?_⟩
  ·have e:L.flatMap hpE.f ++ cur.toList.drop (L.length * 4)=cur.toList:=by
    conv=>rhs; rw[←List.take_append_drop (L.length * 4) cur.toList]
    rw[ht]
   rw[e];exact hg
  ·have h1:cur.toList.length=cap * 4:=by rw[Array.length_toList]; exact hc
   rw[List.length_drop,h1];omega
theorem Xta {w:World}{base g cap:Nat}{L:List Hop}{a:Nat}(h:RowH w g cap L)(hb:base≤g)(hm:cap≤maxLen)(ha:a≤L.length):w.ownsRow base 41 4 (.slice (some ⟨g,0,none⟩) a cap) a ((L.take a).flatMap hpE.f):=by
 obtain ⟨r,hbk,hr⟩:=h;have hl:(L.take a).length=a:=by rw[List.length_take]; omega
 have hfl:=Xan (E:=hpE) (L.take a);rw[hl] at hfl;have h4:hpE.k=4:=rfl;rw[h4] at hfl;have hfL:=Xan (E:=hpE) L;rw[h4] at hfL;refine ⟨hfl,.inr ⟨g,cap,_,rfl,hb,hbk,by omega,hm,?_,?_⟩⟩
 ·rw[List.size_toArray,List.length_append,hfL,hr]
 ·conv=>lhs; rw[←List.take_append_drop a L]
  rw[List.flatMap_append,List.append_assoc];show List.take _ _=_;rw[List.take_left' hfl]
def RevI (l M:List Hop)(k:Nat):Prop:=M.length=l.length ∧ ∀j,j<l.length→M[j]? = if j<k∨l.length≤j+k then l[l.length - 1 - j]? else l[j]?
theorem RevI.step {l M:List Hop}{k:Nat}{x y:Hop}(h:RevI l M k)(hk:k+k+1<l.length)(hx:M[k]? = some x)(hy:M[l.length - 1 - k]? = some y):RevI l ((M.set k y).set (l.length - 1 - k) x) (k+1):=by
 obtain ⟨h1,h2⟩:=h;have hxk:l[k]? = some x:=by
  have:=h2 k (by omega)
  rw[if_neg (by omega),hx] at this
  exact this.symm
 have hyk:l[l.length - 1 - k]? = some y:=by
  have:=h2 (l.length - 1 - k) (by omega)
  rw[if_neg (by omega),hy] at this
  exact this.symm
 refine ⟨by simp[h1],fun j hj=>?_⟩
 by_cases e1:j=l.length - 1 - k
 ·subst e1;rw[List.getElem?_set_self (by rw[List.length_set]; omega),if_pos (.inr (by omega)),show l.length - 1 - (l.length - 1 - k)=k by omega,hxk]
 ·rw[List.getElem?_set_ne (Ne.symm e1)]
  by_cases e2:j=k
  ·subst e2;rw[List.getElem?_set_self (by omega),if_pos (.inl (by omega)),hyk]
  ·rw[List.getElem?_set_ne (Ne.symm e2),h2 j hj]
   by_cases c:j<k∨l.length≤j+k
   ·rw[if_pos c,if_pos (by omega)]
   ·rw[if_neg c,if_neg (by omega)]
theorem RevI.end_ {l M:List Hop}{k:Nat}(h:RevI l M k)(hk:l.length≤k+k+1):M=l.reverse:=by
 refine List.ext_getElem? fun j=>?_
 by_cases hj:j<l.length
 ·rw[h.2 j hj,List.getElem?_reverse hj]
  by_cases c:j<k∨l.length≤j+k
  ·rw[if_pos c]
  ·rw[if_neg c,show l.length - 1 - j=j by omega]
 ·rw[List.getElem?_eq_none (by rw[h.1]; omega),List.getElem?_eq_none (by rw[List.length_reverse]; omega)]
theorem Xm8 (base:Nat)(v:Value)(l:List Hop)(w:World)(hrow:w.ownsRow base 41 4 v l.length (l.flatMap hpE.f))(hne:l ≠ [])(hl:l.length≤1000000000) :
  Calls Tryz.prog 32 #[v] w fun e w' => e = .returned (.tuple #[])∧w'.ownsRow base 41 4 v l.reverse.length (l.reverse.flatMap hpE.f)∧w.grownBy w' v.ownBlock:=by
 obtain ⟨g,cap,rfl,hbg,hlc,hcm,hR⟩:=Xtb hrow hne;have HR0:=Lib.hid hR;have HN:Hid (base≤g∧l.length≤cap∧cap≤maxLen):=⟨hbg,hlc,hcm⟩;have hlp:0<l.length:=List.length_pos_iff.2 hne;clear hrow hR hbg hcm;go_enter Tryz.func32,Tryz.ntmps32;go_wp2;go_loopw [2,3] (fun i j wr => ∃(k:Nat) (M:List Hop),k≤l.length∧i = .int .i64 k∧j = .int .i64 ((l.length:Int) - 1 - k)∧RevI l M k∧RowH wr g cap M∧w.grownBy wr (some g)) (fun i _ _=>l.length - (intOf i).toNat)
 case atStart=>exact ⟨0,l,Nat.zero_le _,rfl,by congr 1; omega,⟨rfl,fun j hj=>by rw[if_neg (by omega)]⟩,HR0.out,(grown_below (Below.refl _ _) none).but _⟩
 case round =>
  obtain ⟨k,M,hk,rfl,rfl,hi,hR,hG⟩:=hrel;have HI:=Lib.hid hi;have HR:=Lib.hid hR;have HG:=Lib.hid hG;have hml:M.length=l.length:=hi.1;clear hi hR hG HR0
  by_cases hlt:k+k+1<l.length
  ·obtain ⟨m,hm⟩:∃m,m=l.length - 1 - k:=⟨_,rfl⟩;have HMD:Hid (m=l.length - 1 - k):=hm;obtain ⟨x,hx⟩:∃x,M[k]? = some x:=⟨_,List.getElem?_eq_getElem (by omega)⟩
   obtain ⟨y,hy⟩:∃y,M[m]? = some y:=⟨_,List.getElem?_eq_getElem (by omega)⟩
   have HST:Hid (RevI l ((M.set k y).set m x) (k+1)):=by
    have h:=HI.out.step hlt hx (by rw[←hm]; exact hy)
    rw[←hm] at h;exact h
   have hj:((l.length:Int) - 1 - (k:Int))=(m:Int):=by omega
   rw[hj];have hj1:((m:Int) - 1)=(l.length:Int) - 1 - ((k+1:Nat):Int):=by omega
   have hkm:(k:Int)<(m:Int):=by omega
   have hk0:(0:Int)≤(k:Int):=by omega
   have hk1:(k:Int)<(l.length:Int):=by omega
   have hm0:(0:Int)≤(m:Int):=by omega
   have hm1:(m:Int)<(l.length:Int):=by omega
   have HCX:=Lib.hid (HR.out.cells hx);have HCY:=Lib.hid (HR.out.cells hy);have HKM:Hid (k<M.length∧m<M.length∧k ≠ m):=by refine ⟨?_,?_,?_⟩ <;> omega
   have HJ1:=Lib.hid hj1;have hkr:(k:Int)≤1000000000:=by omega
   have hmr:(m:Int)≤1000000000:=by omega
   clear hm hx hy HI hj hj1 hml hlt;go_wp2_with fail;have HSX:Hid (((wr.drew.cell? ⟨g,k * 4,none⟩=some (.int .i64 x.ct)∧wr.drew.cell? ⟨g,k * 4+1,none⟩=some (.int .i64 x.beg)∧wr.drew.cell? ⟨g,k * 4+2,none⟩=some (.int .i64 x.fin)∧wr.drew.cell? ⟨g,k * 4+3,none⟩=some (.int .i64 x.arr))∧(wr.drew.cell? ⟨g,m * 4,none⟩=some (.int .i64 y.ct)∧wr.drew.cell? ⟨g,m * 4+1,none⟩=some (.int .i64 y.beg)∧wr.drew.cell? ⟨g,m * 4+2,none⟩=some (.int .i64 y.fin)∧wr.drew.cell? ⟨g,m * 4+3,none⟩=some (.int .i64 y.arr)))):=⟨⟨HCX.out 0 _ rfl,HCX.out 1 _ rfl,HCX.out 2 _ rfl,HCX.out 3 _ rfl⟩,HCY.out 0 _ rfl,HCY.out 1 _ rfl,HCY.out 2 _ rfl,HCY.out 3 _ rfl⟩;refine Xam (S:=fun w' => ((w'.cell? ⟨g,k * 4,none⟩=some (.int .i64 x.ct)∧w'.cell? ⟨g,k * 4+1,none⟩=some (.int .i64 x.beg)∧w'.cell? ⟨g,k * 4+2,none⟩=some (.int .i64 x.fin)∧w'.cell? ⟨g,k * 4+3,none⟩=some (.int .i64 x.arr))∧(w'.cell? ⟨g,m * 4,none⟩=some (.int .i64 y.ct)∧w'.cell? ⟨g,m * 4+1,none⟩=some (.int .i64 y.beg)∧w'.cell? ⟨g,m * 4+2,none⟩=some (.int .i64 y.fin)∧w'.cell? ⟨g,m * 4+3,none⟩=some (.int .i64 y.arr)))) [13,15] (by kernel_rfl) HSX.out (fun hHeld=>?_)
   have HRV:Hid (RowH wr.drew g cap M):=HR.out.below (Below.refl _ _).drew;have HGV:Hid (w.grownBy wr.drew (some g)):=HG.out.trans (grown_below (Below.refl wr.heap.size wr).drew _);clear HSX HCX HCY HR HG;generalize wr.drew=V at HRV HGV hHeld ⊢;refine tkF 0 _ ?_;refine tkF 1 _ ?_;refine tkF 2 _ ?_;refine tkF 3 _ ?_;refine tkF 4 _ ?_;refine tkF 5 _ ?_;refine tkF 6 _ ?_;refine tkF 8 _ ?_;refine tkF 9 _ ?_;refine tkF 10 _ ?_;refine tkG 7 (.agg #[.int .i64 y.ct,.int .i64 y.beg,.int .i64 y.fin,.int .i64 y.arr]) ?_;refine tkG 11 (.agg #[.int .i64 x.ct,.int .i64 x.beg,.int .i64 x.fin,.int .i64 x.arr]) ?_;refine tkF 12 _ ?_;obtain ⟨⟨r0,r1,r2,r3⟩, -⟩:=hHeld;have f0:V.frozen? ⟨g,k * 4,none⟩=false:=HRV.out.free _;have f1:V.frozen? ⟨g,k * 4+1,none⟩=false:=HRV.out.free _;have f2:V.frozen? ⟨g,k * 4+2,none⟩=false:=HRV.out.free _;have f3:V.frozen? ⟨g,k * 4+3,none⟩=false:=HRV.out.free _;have HR1:=Lib.hid (HRV.out.put HKM.out.1 y);have HG1:Hid (w.grownBy ((((V.setCell ⟨g,k * 4,none⟩ (.int .i64 y.ct)).setCell ⟨g,k * 4+1,none⟩ (.int .i64 y.beg)).setCell ⟨g,k * 4+2,none⟩ (.int .i64 y.fin)).setCell ⟨g,k * 4+3,none⟩ (.int .i64 y.arr)) (some g)):=((((HGV.out.trans (Xa0 _ _ _ _)).trans (Xa0 _ _ _ _)).trans (Xa0 _ _ _ _)).trans (Xa0 _ _ _ _));refine Xb4 (i:=13) rfl (by kernel_rfl) (by rfl) (by rfl) (fun K hK=>?_)
   go_simp;refine hK _ _ ?_;clear hK K r0 r1 r2 r3 f0 f1 f2 f3 HRV HGV
   try simp only[PU]
   generalize ((((V.setCell ⟨g,k * 4,none⟩ (.int .i64 y.ct)).setCell ⟨g,k * 4+1,none⟩ (.int .i64 y.beg)).setCell ⟨g,k * 4+2,none⟩ (.int .i64 y.fin)).setCell ⟨g,k * 4+3,none⟩ (.int .i64 y.arr))=V1 at HR1 HG1 ⊢;obtain ⟨z,hz⟩:∃z,(M.set k y)[m]? = some z:=⟨_,List.getElem?_eq_getElem (by rw[List.length_set]; exact HKM.out.2.1)⟩
   have hrg:=HR1.out.cells hz;have r0:V1.cell? ⟨g,m * 4,none⟩=some (.int .i64 z.ct):=hrg 0 _ rfl;have r1:V1.cell? ⟨g,m * 4+1,none⟩=some (.int .i64 z.beg):=hrg 1 _ rfl;have r2:V1.cell? ⟨g,m * 4+2,none⟩=some (.int .i64 z.fin):=hrg 2 _ rfl;have r3:V1.cell? ⟨g,m * 4+3,none⟩=some (.int .i64 z.arr):=hrg 3 _ rfl;have f0:V1.frozen? ⟨g,m * 4,none⟩=false:=HR1.out.free _;have f1:V1.frozen? ⟨g,m * 4+1,none⟩=false:=HR1.out.free _;have f2:V1.frozen? ⟨g,m * 4+2,none⟩=false:=HR1.out.free _;have f3:V1.frozen? ⟨g,m * 4+3,none⟩=false:=HR1.out.free _;have HR2:=Lib.hid (HR1.out.put (a:=m) (by rw[List.length_set]; exact HKM.out.2.1) x)
   have HG2:Hid (w.grownBy ((((V1.setCell ⟨g,m * 4,none⟩ (.int .i64 x.ct)).setCell ⟨g,m * 4+1,none⟩ (.int .i64 x.beg)).setCell ⟨g,m * 4+2,none⟩ (.int .i64 x.fin)).setCell ⟨g,m * 4+3,none⟩ (.int .i64 x.arr)) (some g)):=((((HG1.out.trans (Xa0 _ _ _ _)).trans (Xa0 _ _ _ _)).trans (Xa0 _ _ _ _)).trans (Xa0 _ _ _ _));clear hz hrg;refine Xb4 (i:=14) rfl (by kernel_rfl) (by rfl) (by rfl) (fun K hK=>?_)
   go_simp;refine hK _ _ ?_;clear hK K
   try simp only[PU]
   refine Xb4 (i:=15) rfl (by kernel_rfl) (by rfl) (by rfl) (fun K hK=>?_)
   go_simp;refine hK _ _ ?_;clear hK K r0 r1 r2 r3 f0 f1 f2 f3
   try simp only[PU]
   refine Xbd (by kernel_rfl) ?_
   go_wp2;go_roundw
   case rel=>exact ⟨k+1,_,by omega,by go_num,by rw[HJ1.out],HST.out,HR2.out,HG2.out⟩
   case measure=>simp[intOf]; omega
  ·have hn:¬ ((k:Int)<(l.length:Int) - 1 - (k:Int)):=by omega
   have hM:=HI.out.end_ (by omega)
   have HF:Hid (w.grownBy wr (some g)∧wr.ownsRow base 41 4 (.slice (some ⟨g,0,none⟩) l.length cap) l.reverse.length (l.reverse.flatMap hpE.f)):=by
    refine ⟨HG.out,?_⟩;have h:=Xta (a:=l.length) HR.out HN.out.1 HN.out.2.2 (by omega)
    rw[←hml,List.take_length,hM] at h;rw[hM] at hml;rw[List.length_reverse] at h ⊢;exact h
   rw[List.length_reverse] at HF;clear hM HI HR HG;go_wp2;go_end0;exact ⟨rfl,HF.out.2,HF.out.1⟩
end Go.Proofs.YtebkgbmijocdjaaGreat.Tp
