/- A part of the proof for the ledger. No condition beyond those that each theorem states. -/
import Derived.Sort.LotA
set_option maxHeartbeats 32000000
set_option maxRecDepth 100000
set_option linter.unusedVariables false
set_option linter.unusedSimpArgs false
namespace Go.Proofs.YtebkgbmijocdjaaGreat.Tp
open Go.Sort
section
variable {α:Type} [Inhabited α] {lt:α → α → Bool}
theorem swp_get (d:Array α){i j:Nat}(hi:i<d.size)(hj:j<d.size)(hij:i ≠ j)(t:Nat):(swp d i j)[t]! = if t=i then d[j]! else if t=j then d[i]! else d[t]! := by
 by_cases h1:t=i
 ·subst h1; rw[if_pos rfl]; exact swp_left d t j hi hij
 ·rw[if_neg h1]
  by_cases h2:t=j
  ·subst h2; rw[if_pos rfl]; exact swp_right d i t hj
  ·rw[if_neg h2]; exact swp_other d i j t h1 h2
def swpR (d:Array α)(a b:Nat):Nat→Array α
 | 0=>d
 | k+1=>swp (swpR d a b k) (a+k) (b+k)
theorem Xba (d:Array α)(a b:Nat):∀k,(swpR d a b k).size=d.size
 | 0=>rfl
 | k+1=>by rw[swpR,size_swp,Xba d a b k]
theorem Xgk (d:Array α){a b:Nat}:∀(k:Nat),a+k≤b→b+k≤d.size → ∀t,(swpR d a b k)[t]! = if a≤t∧t<a+k then d[t+(b - a)]! else if b≤t∧t<b+k then d[t - (b - a)]! else d[t]!
 | 0,_,_,t=>by rw[swpR,if_neg (by omega),if_neg (by omega)]
 | k+1,h1,h2,t=>by
   have ih:=Xgk d (a:=a) (b:=b) k (by omega) (by omega)
   rw[swpR,swp_get (swpR d a b k) (i:=a+k) (j:=b+k) (by rw[Xba]; omega) (by rw[Xba]; omega) (by omega),ih,ih,ih]
   by_cases e1:t=a+k
   ·subst e1;rw[if_pos rfl,if_neg (by omega),if_neg (by omega),if_pos (by omega)]
    congr 1; omega
   ·rw[if_neg e1]
    by_cases e2:t=b+k
    ·subst e2;rw[if_pos rfl,if_neg (by omega),if_neg (by omega),if_neg (by omega),if_pos (by omega)]
     congr 1; omega
    ·rw[if_neg e2]
     by_cases e3:a≤t∧t<a+k
     ·rw[if_pos e3,if_pos (by omega)]
     ·rw[if_neg e3]
      by_cases e4:b≤t∧t<b+k
      ·rw[if_pos e4,if_neg (by omega),if_pos (by omega)]
      ·rw[if_neg e4,if_neg (by omega),if_neg (by omega)]
theorem Xf7 (d:Array α){a b lo hi:Nat}:∀(k:Nat),lo≤a→a+k≤b→b+k≤hi→hi≤d.size→PermIn lo hi d (swpR d a b k)
 | 0,_,_,_,_=>permIn_refl _ _ _
 | k+1,h0,h1,h2,h3=>permIn_trans _ _ _ _ _ (Xf7 d k h0 (by omega) (by omega) h3) (swp_permIn _ _ _ _ _ (by omega) (by omega) (by omega) (by omega) (by rw[Xba]; exact h3))
structure Rot (a m b:Nat)(d d':Array α):Prop where
 pm:PermIn a b d d'
 lo:∀t,a≤t→t<a+(b - m)→d'[t]! = d[t+(m - a)]!
 hi:∀t,a+(b - m)≤t→t<b→d'[t]! = d[t - (b - m)]!
theorem Rot.none (a b:Nat)(d:Array α)(m:Nat)(h:m=a∨m=b)(hm:a≤m)(hb:m≤b):Rot a m b d d:=by
 refine ⟨permIn_refl _ _ _,fun t h1 h2=>?_,fun t h1 h2=>?_⟩
 ·congr 1; omega
 ·congr 1; omega
theorem Rot.stepL {a m b i j:Nat}{d d':Array α}(ha:m - i=a)(hi:i≤m)(hb:m+j=b)(hij:j<i)(hs:b≤d.size)(h:Rot (m - (i - j)) m b (swpR d (m - i) m j) d'):Rot a m b d d':=by
 subst ha hb;have hg:=Xgk d (a:=m - i) (b:=m) j (by omega) hs
 have hp:=Xf7 d (a:=m - i) (b:=m) (lo:=m - i) (hi:=m+j) j (Nat.le_refl _) (by omega) (Nat.le_refl _) hs
 refine ⟨permIn_trans _ _ _ _ _ hp (permIn_mono _ _ _ _ _ _ (by omega) (Nat.le_refl _) (by rw[Xba]; exact hs) h.pm),fun t h1 h2=>?_,fun t h1 h2=>?_⟩
 ·rw[h.pm.2.1 t (Or.inl (by omega)),hg,if_pos (by omega)]
 ·by_cases e:t<m - (i - j)+(m+j - m)
  ·rw[h.lo t (by omega) e,hg]
   by_cases e2:m≤t+(m - (m - (i - j)))∧t+(m - (m - (i - j)))<m+j
   ·rw[if_neg (by omega),if_pos e2]
    congr 1; omega
   ·omega
  ·rw[h.hi t (by omega) h2,hg,if_neg (by omega),if_neg (by omega)]
theorem Rot.stepR {a m b i j:Nat}{d d':Array α}(ha:m - i=a)(hi:i≤m)(hb:m+j=b)(hij:i<j)(hs:b≤d.size)(h:Rot a m (m+(j - i)) (swpR d (m - i) (m+j - i) i) d'):Rot a m b d d':=by
 subst ha hb;have hg:=Xgk d (a:=m - i) (b:=m+j - i) i (by omega) (by omega)
 have hp:=Xf7 d (a:=m - i) (b:=m+j - i) (lo:=m - i) (hi:=m+j) i (Nat.le_refl _) (by omega) (by omega) hs
 refine ⟨permIn_trans _ _ _ _ _ hp (permIn_mono _ _ _ _ _ _ (Nat.le_refl _) (by omega) (by rw[Xba]; exact hs) h.pm),fun t h1 h2=>?_,fun t h1 h2=>?_⟩
 ·by_cases e:t<m - i+(m+(j - i) - m)
  ·rw[h.lo t h1 e,hg,if_neg (by omega),if_neg (by omega)]
  ·by_cases e1:t<m+(j - i)
   ·rw[h.hi t (by omega) e1,hg,if_pos (by omega)]
    congr 1; omega
   ·omega
 ·by_cases e1:t<m+(j - i)
  ·omega
  ·rw[h.pm.2.1 t (Or.inr (by omega)),hg,if_neg (by omega),if_pos (by omega)]
   congr 1; omega
theorem Rot.last {a m b i:Nat}{d:Array α}(ha:m - i=a)(hi:i≤m)(hb:m+i=b)(hs:b≤d.size):Rot a m b d (swpR d (m - i) m i):=by
 subst ha hb;have hg:=Xgk d (a:=m - i) (b:=m) i (by omega) hs
 refine ⟨Xf7 d i (Nat.le_refl _) (by omega) (Nat.le_refl _) hs,fun t h1 h2=>?_,fun t h1 h2=>?_⟩
 ·rw[hg,if_pos (by omega)]
 ·rw[hg,if_neg (by omega),if_pos (by omega)]
  congr 1; omega
theorem Rot.up {a k:Nat}{d d':Array α}(h:Rot a (a+1) (k+1) d d')(ha:a≤k)(hk:k+1<d.size):Rot a (a+1) (k+2) d (swp d' k (k+1)):=by
 have hz:d'.size=d.size:=h.pm.1;have hg:=swp_get d' (i:=k) (j:=k+1) (by omega) (by omega) (by omega)
 refine ⟨permIn_trans _ _ _ _ _ (permIn_mono _ _ _ _ _ _ (Nat.le_refl _) (by omega) (by omega) h.pm) (swp_permIn _ _ _ _ _ ha (by omega) (by omega) (by omega) (by omega)),fun t h1 h2=>?_,fun t h1 h2=>?_⟩
 ·rw[hg]
  by_cases e:t=k
  ·subst e;rw[if_pos rfl,h.pm.2.1 _ (Or.inr (by omega))]
   congr 1; omega
  ·rw[if_neg e,if_neg (by omega),h.lo t h1 (by omega)]
 ·rw[hg,if_neg (by omega),if_pos (by omega),h.hi k (by omega) (by omega)]
  congr 1; omega
theorem Rot.down {m k:Nat}{d d':Array α}(h:Rot (k+1) m (m+1) d d')(hk:k+1≤m)(hm:m<d.size):Rot k m (m+1) d (swp d' (k+1) k):=by
 have hz:d'.size=d.size:=h.pm.1;have hg:=swp_get d' (i:=k+1) (j:=k) (by omega) (by omega) (by omega)
 refine ⟨permIn_trans _ _ _ _ _ (permIn_mono _ _ _ _ _ _ (by omega) (Nat.le_refl _) (by omega) h.pm) (swp_permIn _ _ _ _ _ (by omega) (by omega) (Nat.le_refl _) (by omega) (by omega)),fun t h1 h2=>?_,fun t h1 h2=>?_⟩
 ·rw[hg,if_neg (by omega),if_pos (by omega),h.lo (k+1) (by omega) (by omega)]
  congr 1; omega
 ·rw[hg]
  by_cases e:t=k+1
  ·subst e;rw[if_pos rfl,h.pm.2.1 _ (Or.inl (by omega))]
   congr 1; omega
  ·rw[if_neg e,if_neg (by omega),h.hi t (by omega) h2]
structure Cut (q:Nat→Bool)(lo hi i j:Nat):Prop where
 li:lo≤i
 ij:i≤j
 jh:j≤hi
 yes:∀c,lo≤c→c<i→q c=true
 no:∀c,j≤c→c<hi→q c=false
def Mono (q:Nat→Bool)(lo hi:Nat):Prop:=∀c c',lo≤c' → c' < c→c<hi→q c=true→q c' = true
theorem Cut.start (q:Nat→Bool){lo hi:Nat}(h:lo≤hi):Cut q lo hi lo hi:=⟨Nat.le_refl _,h,Nat.le_refl _,fun _ _ _=>by omega,fun _ _ _=>by omega⟩
theorem Cut.right {q:Nat→Bool}{lo hi i j h:Nat}(C:Cut q lo hi i j)(M:Mono q lo hi)(h1:i≤h)(h2:h<j)(hq:q h=true):Cut q lo hi (h+1) j:=by
 have:=C.li; have:=C.jh;refine ⟨by omega,by omega,C.jh,fun c c1 c2=>?_,C.no⟩
 by_cases e:c=h
 ·rw[e]; exact hq
 ·exact M h c c1 (by omega) (by omega) hq
theorem Cut.left {q:Nat→Bool}{lo hi i j h:Nat}(C:Cut q lo hi i j)(M:Mono q lo hi)(h1:i≤h)(h2:h<j)(hq:q h=false):Cut q lo hi i h:=by
 have:=C.li; have:=C.jh;refine ⟨C.li,h1,by omega,C.yes,fun c c1 c2=>?_⟩
 by_cases e:c=h
 ·rw[e]; exact hq
 ·cases hc:q c with
  | false=>rfl
  | true=>rw[M c h (by omega) (by omega) c2 hc] at hq; cases hq
theorem mono1 (hw:SWO lt){d:Array α}{m b:Nat}(x:α)(h:SortedIn lt m b d):Mono (fun c=>lt d[c]! x) m b:=fun c c' h1 h2 h3 hc=>by
 have hc:lt d[c]! x=true:=hc;show lt d[c']! x=true;cases e:lt d[c']! x with
 | true=>rfl
 | false =>
   have h4:=h c' c h1 h2 h3;have:=hw.ntrans _ _ _ h4 e;rw[this] at hc; cases hc
theorem mono2 (hw:SWO lt){d:Array α}{a m:Nat}(x:α)(h:SortedIn lt a m d):Mono (fun c => !lt x d[c]!) a m:=fun c c' h1 h2 h3 hc=>by
 have hc':lt x d[c]! = false:=by simpa using hc
 have:=hw.ntrans _ _ _ hc' (h c' c h1 h2 h3);simp[this]
theorem Xrr (hw:SWO lt){d:Array α}{a m b p lo hi:Nat}(h1:SortedIn lt a m d)(h2:SortedIn lt m b d)(ha:a≤lo)(hm:hi≤m)(hlo:p - lo<b)(hhi:m≤p - (hi - 1))(hp:hi≤p+1):Mono (fun c => !lt d[p - c]! d[c]!) lo hi:=fun c c' e1 e2 e3 hc=>by
 have hc':lt d[p - c]! d[c]! = false:=by simpa using hc
 have h3:=h1 c' c (by omega) e2 (by omega)
 have h4:=h2 (p - c) (p - c') (by omega) (by omega) (by omega)
 have:=hw.ntrans _ _ _ h4 (hw.ntrans _ _ _ hc' h3);simp[this]
theorem Rot.below {a m b:Nat}{d d':Array α}(h:Rot a m b d d'){t:Nat}(ht:t<a):d'[t]! = d[t]! := h.pm.2.1 t (Or.inl ht)
theorem Rot.above {a m b:Nat}{d d':Array α}(h:Rot a m b d d'){t:Nat}(ht:b≤t):d'[t]! = d[t]! := h.pm.2.1 t (Or.inr ht)
omit [Inhabited α] in
theorem Xjn (hw:SWO lt){x y:α}(h:lt x y=true):lt y x=false:=by
 cases e:lt y x with
 | false=>rfl
 | true=>have:=hw.trans _ _ _ h e; rw[hw.irrefl] at this; cases this
theorem Xst (hw:SWO lt){d d':Array α}{a b i:Nat}(h:SortedIn lt (a+1) b d)(C:Cut (fun c=>lt d[c]! d[a]!) (a+1) b i i)(R:Rot a (a+1) i d d')(hb:b≤d.size):PermIn a b d d' ∧ SortedIn lt a b d':=by
 have hi:=C.li; have hj:=C.jh;refine ⟨permIn_mono _ _ _ _ _ _ (Nat.le_refl _) hj hb R.pm,fun x y h1 h2 h3=>?_⟩;have at0:∀t,a≤t→t<i - 1→d'[t]! = d[t+1]! := fun t h1 h2=>by rw[R.lo t h1 (by omega)]; congr 1; omega
 have at1:d'[i - 1]! = d[a]! := by rw[R.hi (i - 1) (by omega) (by omega)]; congr 1; omega
 have at2:∀t,i≤t→d'[t]! = d[t]! := fun t ht=>R.above ht
 by_cases e1:y<i - 1
 ·rw[at0 x h1 (by omega),at0 y (by omega) e1]
  exact h _ _ (by omega) (by omega) (by omega)
 ·by_cases e2:y=i - 1
  ·subst e2;rw[at1,at0 x h1 (by omega)]
   exact Xjn hw (C.yes (x+1) (by omega) (by omega))
  ·rw[at2 y (by omega)]
   by_cases e3:x<i - 1
   ·rw[at0 x h1 e3];exact h _ _ (by omega) (by omega) h3
   ·by_cases e4:x=i - 1
    ·subst e4;rw[at1];exact C.no y (by omega) h3
    ·rw[at2 x (by omega)]
     exact h _ _ (by omega) h2 h3
theorem Xss (hw:SWO lt){d d':Array α}{a m i:Nat}(h:SortedIn lt a m d)(C:Cut (fun c => !lt d[m]! d[c]!) a m i i)(R:Rot i m (m+1) d d')(hb:m+1≤d.size):PermIn a (m+1) d d' ∧ SortedIn lt a (m+1) d':=by
 have hi:=C.li; have hj:=C.jh;refine ⟨permIn_mono _ _ _ _ _ _ hi (Nat.le_refl _) hb R.pm,fun x y h1 h2 h3=>?_⟩;have at0:∀t,t<i→d'[t]! = d[t]! := fun t h1=>R.below h1;have at1:d'[i]! = d[m]! := by rw[R.lo i (Nat.le_refl _) (by omega)]; congr 1; omega
 have at2:∀t,i<t→t<m+1→d'[t]! = d[t - 1]! := fun t ht ht2=>by rw[R.hi t (by omega) ht2]; congr 1; omega
 by_cases e1:y<i
 ·rw[at0 x (by omega),at0 y e1]
  exact h _ _ h1 h2 (by omega)
 ·by_cases e2:y=i
  ·subst e2;rw[at1,at0 x h2];have:=C.yes x h1 h2;simpa using this
  ·rw[at2 y (by omega) h3]
   by_cases e3:x<i
   ·rw[at0 x e3];exact h _ _ h1 (by omega) (by omega)
   ·by_cases e4:x=i
    ·subst e4;rw[at1];have:=C.no (y - 1) (by omega) (by omega)
     exact Xjn hw (by simpa using this)
    ·rw[at2 x (by omega) (by omega)]
     exact h _ _ (by omega) (by omega) (by omega)
structure Halves (lt:α → α → Bool)(a s mid e b:Nat)(d':Array α):Prop where
 as:SortedIn lt a s d'
 sm:SortedIn lt s mid d'
 me:SortedIn lt mid e d'
 eb:SortedIn lt e b d'
 lr:∀x y,a≤x→x<mid→mid≤y→y<b→lt d'[y]! d'[x]! = false
theorem halves (hw:SWO lt){d d':Array α}{a m b mid s lo hi:Nat}(h1:SortedIn lt a m d)(h2:SortedIn lt m b d)(hmid:mid=(a+b) / 2)(ham:a<m)(hmb:m<b)
  (hlo:lo=if mid<m then mid+m - b else a) (hhi:hi=if mid<m then mid else m) (C:Cut (fun c => !lt d[mid+m - 1 - c]! d[c]!) lo hi s s) (R:Rot s m (mid+m - s) d d') (hb:b≤d.size):a≤s∧s≤mid∧s≤m∧mid≤mid+m - s∧m≤mid+m - s∧mid+m - s≤b∧PermIn a b d d' ∧ Halves lt a s mid (mid+m - s) b d':=by
 have c1:=C.li; have c2:=C.jh;have hlo':a≤lo∧(lo=a∨lo=mid+m - b)∧mid+m - lo≤b:=by split at hlo <;> omega
 have hhi':hi≤m∧hi≤mid∧(hi=m∨hi=mid):=by split at hhi <;> omega
 have at0:∀t,t<s→d'[t]! = d[t]! := fun t ht=>R.below ht;have at1:∀t,s≤t→t<mid→d'[t]! = d[t+(m - s)]! := fun t ht1 ht2=>R.lo t ht1 (by omega)
 have at2:∀t,mid≤t→t<mid+m - s→d'[t]! = d[t - (mid - s)]! := fun t ht1 ht2=>by rw[R.hi t (by omega) ht2]; congr 1; omega
 have at3:∀t,mid+m - s≤t→d'[t]! = d[t]! := fun t ht=>R.above ht;refine ⟨by omega,by omega,by omega,by omega,by omega,by omega,permIn_mono _ _ _ _ _ _ (by omega) (by omega) hb R.pm,⟨fun x y e1 e2 e3=>?_,fun x y e1 e2 e3=>?_,fun x y e1 e2 e3=>?_,fun x y e1 e2 e3=>?_,fun x y e1 e2 e3 e4=>?_⟩⟩
 ·rw[at0 x (by omega),at0 y e3]; exact h1 _ _ e1 e2 (by omega)
 ·rw[at1 x e1 (by omega),at1 y (by omega) e3]; exact h2 _ _ (by omega) (by omega) (by omega)
 ·rw[at2 x e1 (by omega),at2 y (by omega) e3]; exact h1 _ _ (by omega) (by omega) (by omega)
 ·rw[at3 x e1,at3 y (by omega)]; exact h2 _ _ (by omega) e2 e3
 ·by_cases f1:x<s
  ·rw[at0 x f1]
   by_cases f2:y<mid+m - s
   ·rw[at2 y e3 f2]; exact h1 _ _ e1 (by omega) (by omega)
   ·rw[at3 y (by omega)]
    have g1:lt d[mid+m - 1 - (s - 1)]! d[s - 1]! = false:=by
     have:=C.yes (s - 1) (by omega) (by omega)
     simpa using this
    have g2:lt d[s - 1]! d[x]! = false:=by
     by_cases g:x=s - 1
     ·rw[g]; exact hw.irrefl _
     ·exact h1 _ _ e1 (by omega) (by omega)
    have g3:lt d[y]! d[mid+m - 1 - (s - 1)]! = false:=by
     by_cases g:y=mid+m - 1 - (s - 1)
     ·rw[←g]; exact hw.irrefl _
     ·exact h2 _ _ (by omega) (by omega) e4
    exact hw.ntrans _ _ _ g3 (hw.ntrans _ _ _ g1 g2)
  ·rw[at1 x (by omega) e2]
   by_cases f2:y<mid+m - s
   ·rw[at2 y e3 f2];have g1:lt d[mid+m - 1 - s]! d[s]! = true:=by
     have:=C.no s (Nat.le_refl _) (by omega)
     simpa using this
    have g2:lt d[y - (mid - s)]! d[s]! = false:=by
     by_cases g:y - (mid - s)=s
     ·rw[g]; exact hw.irrefl _
     ·exact h1 _ _ (by omega) (by omega) (by omega)
    have g3:lt d[mid+m - 1 - s]! d[x+(m - s)]! = false:=by
     by_cases g:mid+m - 1 - s=x+(m - s)
     ·rw[←g]; exact hw.irrefl _
     ·exact h2 _ _ (by omega) (by omega) (by omega)
    exact hw.ntrans _ _ _ g2 (hw.ntrans _ _ _ (Xjn hw g1) g3)
   ·rw[at3 y (by omega)]
    exact h2 _ _ (by omega) (by omega) e4
theorem Xc6 {d1 d2 d3:Array α}{a s mid e b:Nat}(H:Halves lt a s mid e b d1)(ha:a≤s)(hs:s≤mid)(he:mid≤e)(hb:e≤b)(hz:b≤d1.size)
  (h2:PermIn a mid d1 d2) (h2s:SortedIn lt a mid d2) (h3:PermIn mid b d2 d3) (h3s:SortedIn lt mid b d3):PermIn a b d1 d3∧SortedIn lt a b d3:=by
 have z2:d2.size=d1.size:=h2.1;refine ⟨permIn_trans _ _ _ _ _ (permIn_mono _ _ _ _ _ _ (Nat.le_refl _) (by omega) hz h2) (permIn_mono _ _ _ _ _ _ (by omega) (Nat.le_refl _) (by omega) h3),fun x y e1 e2 e3=>?_⟩
 have L:∀x,a≤x→x<mid → ∀y,mid≤y→y<b→lt d1[y]! d2[x]! = false :=
  permIn_all d1 d2 a mid (fun v => ∀y,mid≤y→y<b→lt d1[y]! v=false) (by omega) h2 fun x x1 x2 y y1 y2=>H.lr x y x1 x2 y1 y2
 by_cases f1:y<mid
 ·rw[h3.2.1 x (Or.inl (by omega)),h3.2.1 y (Or.inl f1)]
  exact h2s _ _ e1 e2 f1
 ·by_cases f2:x<mid
  ·rw[h3.2.1 x (Or.inl f2)];refine permIn_all d2 d3 mid b (fun v=>lt v d2[x]! = false) (by omega) h3 (fun y' y1 y2=>?_) y (by omega) e3
   rw[h2.2.1 y' (Or.inr y1)];exact L x e1 f2 y' y1 y2
  ·exact h3s _ _ (by omega) e2 e3
theorem Xie {d:Array α}{a s mid:Nat}(h1:SortedIn lt a s d)(h2:SortedIn lt s mid d)(h:s≤a∨mid≤s)(ha:a≤s):SortedIn lt a mid d:=fun x y e1 e2 e3=>by
 rcases h with h | h
 ·exact h2 x y (by omega) e2 e3
 ·exact h1 x y e1 e2 (by omega)
theorem SortedIn.same {d d':Array α}{a b:Nat}(h:SortedIn lt a b d)(he:∀t,a≤t→t<b→d'[t]! = d[t]!):SortedIn lt a b d':=fun x y e1 e2 e3=>by
 rw[he x e1 (by omega),he y (by omega) e3]; exact h x y e1 e2 e3
def BlkP (lt:α → α → Bool)(bs lo hi:Nat)(d:Array α):Prop:=∀i j,lo≤i→i<j→j<hi→(∀c,bs ∣ c → ¬ (i<c∧c≤j))→lt d[j]! d[i]! = false
theorem BlkP.nil (bs:Nat)(d:Array α):BlkP lt bs 0 0 d:=fun i j _ _ h=>by omega
theorem BlkP.sorted {bs lo hi a e:Nat}{d:Array α}(h:BlkP lt bs lo hi d)(ha:bs ∣ a)(h1:lo≤a)(h2:e≤a+bs)(h3:e≤hi):SortedIn lt a e d:=fun i j e1 e2 e3=>by
 refine h i j (by omega) e2 (by omega) fun c hc hh=>?_
 have h4:bs ∣ c - a:=Nat.dvd_sub hc ha;have:=Nat.le_of_dvd (by omega) h4
 omega
theorem BlkP.snoc {bs a e:Nat}{d d':Array α}(h:BlkP lt bs 0 a d)(ha:bs ∣ a)(hs:SortedIn lt a e d')(hp:PermIn a e d d'):BlkP lt bs 0 e d':=fun i j e1 e2 e3 hn=>by
 by_cases c1:j<a
 ·rw[hp.2.1 i (Or.inl (by omega)),hp.2.1 j (Or.inl c1)]
  exact h i j e1 e2 c1 hn
 ·by_cases c2:a≤i
  ·exact hs i j c2 e2 e3
  ·exact absurd ⟨by omega,by omega⟩ (hn a ha)
theorem BlkP.rest {bs a e n:Nat}{d d':Array α}(h:BlkP lt bs a n d)(hae:a≤e)(hp:PermIn a e d d'):BlkP lt bs e n d':=fun i j e1 e2 e3 hn=>by
 rw[hp.2.1 i (Or.inr e1),hp.2.1 j (Or.inr (by omega))]
 exact h i j (by omega) e2 e3 hn
end
end Go.Proofs.YtebkgbmijocdjaaGreat.Tp
