/- A part of the proof for the ledger. No condition beyond those that each theorem states. -/
import Derived.Shelf.SlSortCmp.ReverseRangeK
import Derived.Test.YtebkgbmijocdjaaGreatZ15
import Derived.Test.YtebkgbmijocdjaaGreatZ17
set_option maxHeartbeats 32000000
set_option maxRecDepth 100000
set_option linter.unusedVariables false
set_option linter.unusedSimpArgs false
namespace Go.Proofs.YtebkgbmijocdjaaGreat.Tp
open Go Go.RowKit Go.Lib Go.Proofs Go.Sort
section
variable {α:Type} [Inhabited α]
def StT1 (f:α → List Value)(k:Nat)(lt:α → α → Bool)(w0:World)(blk off a b s mid e:Nat)(d:Array α)(w:World):Prop:=∃d1,PermIn a b d d1∧Halves lt a s mid e b d1∧SWK f k w0 blk off d1 w
def StT2 (f:α → List Value)(k:Nat)(lt:α → α → Bool)(w0:World)(blk off a b s mid e:Nat)(d:Array α)(w:World):Prop:=∃d1 d2,PermIn a b d d1∧Halves lt a s mid e b d1∧PermIn a mid d1 d2∧SortedIn lt a mid d2∧SWK f k w0 blk off d2 w
def StT3 (f:α → List Value)(k:Nat)(lt:α → α → Bool)(w0:World)(blk off a b:Nat)(d:Array α)(w:World):Prop:=∃d',PermIn a b d d' ∧ SortedIn lt a b d' ∧ SWK f k w0 blk off d' w
variable {f:α → List Value} {k:Nat} {lt:α → α → Bool} {w0:World} {blk off a b s mid e:Nat} {d:Array α}
theorem StT1.skip (has:a≤s)(h:¬ (a<s∧s<mid)){w:World}(t:StT1 f k lt w0 blk off a b s mid e d w):StT2 f k lt w0 blk off a b s mid e d w:=by
 obtain ⟨d1,p,H,S⟩:=t;exact ⟨d1,d1,p,H,permIn_refl _ _ _,Xie H.as H.sm (by omega) has,S⟩
theorem StT2.skip (has:a≤s)(hsm:s≤mid)(hme:mid≤e)(heb:e≤b)(hb:b≤d.size)(h:¬ (mid<e∧e<b)){w:World}(t:StT2 f k lt w0 blk off a b s mid e d w):StT3 f k lt w0 blk off a b d w:=by
 obtain ⟨d1,d2,p,H,p2,s2,S⟩:=t;have z1:d1.size=d.size:=p.1;have hsame:∀t,mid≤t→t<b→d2[t]! = d1[t]! := fun t h1 _=>p2.2.1 t (Or.inr h1);have h3:=Xie (SortedIn.same H.me fun t h1 h2=>hsame t h1 (by omega)) (SortedIn.same H.eb fun t h1 h2=>hsame t (by omega) h2) (by omega) hme
 have hd:=Xc6 H has hsm hme heb (by omega) p2 s2 (permIn_refl _ _ _) h3
 exact ⟨d2,permIn_trans _ _ _ _ _ p hd.1,hd.2,S⟩
theorem StT2.fin (has:a≤s)(hsm:s≤mid)(hme:mid≤e)(heb:e≤b)(hb:b≤d.size){w w':World}(t:StT2 f k lt w0 blk off a b s mid e d w)
  (h:∀d2,SWK f k w0 blk off d2 w→d2.size=d.size→SortedIn lt mid e d2→SortedIn lt e b d2 → ∃d3,PermIn mid b d2 d3∧SortedIn lt mid b d3∧SWK f k w0 blk off d3 w'):StT3 f k lt w0 blk off a b d w':=by
 obtain ⟨d1,d2,p,H,p2,s2,S⟩:=t;have z1:d1.size=d.size:=p.1;have z2:d2.size=d1.size:=p2.1;have hsame:∀t,mid≤t→t<b→d2[t]! = d1[t]! := fun t h1 _=>p2.2.1 t (Or.inr h1);obtain ⟨d3,p3,s3,S3⟩:=h d2 S (by omega) (SortedIn.same H.me fun t h1 h2=>hsame t h1 (by omega)) (SortedIn.same H.eb fun t h1 h2=>hsame t (by omega) h2)
 have hd:=Xc6 H has hsm hme heb (by omega) p2 s2 p3 s3
 exact ⟨d3,permIn_trans _ _ _ _ _ p hd.1,hd.2,S3⟩
end
def Xqe:Go.Shelf.Ren:=⟨fun | 20=>182 | n=>n,fun | 24=>99 | 22=>27 | 3=>3 | 25=>164 | 4=>4 | 0=>0 | n=>n,fun | n=>n⟩
theorem insHd:Go.Proofs.SlLaysF0.n20 Tryz.prog Xqe:={
 mixed:=by kernel_rfl
 f20:=⟨Tryz.f182.name,by decide,Tryz.func182.trans (congrArg some (by kernel_rfl))⟩
 t0:=Tryz.underlying0
 a0:=Tryz.isAgg0
 z0:=Tryz.sizeOf0
 v0:=Tryz.zeroValue0
 t3:=Tryz.underlying3
 a3:=Tryz.isAgg3
 z3:=Tryz.sizeOf3
 v3:=Tryz.zeroValue3
 t4:=Tryz.underlying4
 a4:=Tryz.isAgg4
 z4:=Tryz.sizeOf4
 v4:=Tryz.zeroValue4
 t22:=Tryz.underlying27
 a22:=Tryz.isAgg27
 z22:=Tryz.sizeOf27
 v22:=Tryz.zeroValue27
 t25:=Tryz.underlying164
 a25:=Tryz.isAgg164
 z25:=Tryz.sizeOf164
 v25:=Tryz.zeroValue164 }
section
attribute [-simp] Tryz.isAgg95 Tryz.sizeOf95 Tryz.typeInfo95
theorem Xe [Inhabited Bkg](k:Nat)(hk4:k=bkE.k)(g:Nat)(cb:Array Value)(blk off cap a b n:Nat)(d0 d:Array Bkg)(w0 w:World)
  (R:RowK bkE.f k w0 blk off d0) (hs:d0.size=d.size) (S:SWK bkE.f k w0 blk off d w) (hab:a+n≤b) (hb:b+n≤d.size) (hsz:d.size<4611686018427387904) :
  Calls Tryz.prog 232 #[.slice (some ⟨blk,off,none⟩) d.size cap,.int .i64 a,.int .i64 b,.int .i64 n,.func (.func g) #[] cb] w fun e w' => e = .returned (.tuple #[])∧SWK bkE.f k w0 blk off (swpR d a b n) w':=by
 have aE:∀w,(isAgg 95).run Tryz.prog w = .ok true w:=Tryz.isAgg95;have zE:∀w,(Go.sizeOf 95).run Tryz.prog w = .ok k w:=by rw[hk4]; exact Tryz.sizeOf95
 clear hk4;have mixed:Tryz.prog.follows Departure.mixedOrders=true:=by kernel_rfl
 have S0:Aside (SWK bkE.f k w0 blk off d w):=S;clear S;go_enter Tryz.func232,Tryz.ntmps232;go_wp2;go_loopg [10] n (fun kx s10 wr => ∃(i:Nat),s10 = .int .i64 i∧i≤n∧n - i≤kx∧Aside (SWK bkE.f k w0 blk off (swpR d a b i) wr))
 case atStart=>exact ⟨0,rfl,Nat.zero_le _,Nat.le_refl _,S0⟩
 case round =>
  clear S0;obtain ⟨i,rfl,hin,hkx,S1⟩:=hrel;have hds:=Xba d a b i
  by_cases hlt:i<n
  ·have hltz:(i:Int)<(n:Int):=by omega
   have HSW:Aside (swpR d a b (i+1)=swp (swpR d a b i) (a+i) (b+i)):=rfl;generalize swpR d a b i=dk at S1 hds HSW;go_wp2_with fail;have wA:IntKind.i64.wrap ((a:Int)+(i:Int))=((a+i:Nat):Int):=by rw[IntKind.wrap_i64]; omega
   have wB:IntKind.i64.wrap ((b:Int)+(i:Int))=((b+i:Nat):Int):=by rw[IntKind.wrap_i64]; omega
   have ea44:(((a+i:Nat):Int)).toNat=a+i:=by omega
   have pa44:(0:Int)≤((a+i:Nat):Int):=by omega
   have ba44:((a+i:Nat):Int)<(d.size:Int):=by omega
   have ec44:(((b+i:Nat):Int)).toNat=b+i:=by omega
   have pc44:(0:Int)≤((b+i:Nat):Int):=by omega
   have bc44:((b+i:Nat):Int)<(d.size:Int):=by omega
   have S2:=S1.out.swapped R (a+i) (b+i) (by omega) (by omega)
   rw[←HSW.out] at S2;have S2:Aside _:=S2;have l44a:=S1.out.ld1 R (by omega) Tryz.prog (a+i) (by omega)
   have l44b:=S1.out.ld1 R (by omega) Tryz.prog (b+i) (by omega)
   have s44a:=S1.out.st1 R (by omega) Tryz.prog (a+i) (by omega) dk[b+i]!
   have s44b:=S1.out.st2 R (by omega) Tryz.prog (a+i) (b+i) (by omega) (by omega) dk[b+i]! dk[a+i]!
   have n44a:(bkE.f dk[a+i]!).length=k:=R.hk _;have n44b:(bkE.f dk[b+i]!).length=k:=R.hk _;generalize bkE.f dk[a+i]! = cI44 at S2 l44a s44b n44a;generalize bkE.f dk[b+i]! = cJ44 at S2 l44b s44a s44b n44b;clear S1;go_big_region_o;clear l44a l44b s44a s44b;generalize (wr.drew.setCells blk (off+(a+i) * k) cJ44).setCells blk (off+(b+i) * k) cI44=w2 at S2 ⊢;go_wp2;go_roundg (n - (i+1))
   case measure=>omega
   case rel=>exact ⟨i+1,by go_num,by omega,Nat.le_refl _,S2⟩
  ·have hltz:¬ (i:Int)<(n:Int):=by omega
   have e:i=n:=by omega
   subst e;go_wp2;go_end0;exact ⟨rfl,S1.out⟩
end
section
attribute [-simp] Tryz.isAgg95 Tryz.sizeOf95 Tryz.typeInfo95
theorem Xky [Inhabited Bkg](k:Nat)(hk4:k=bkE.k)(g:Nat)(cb:Array Value)(blk off cap a m b:Nat)(d0 d:Array Bkg)(w0 w:World)
  (R:RowK bkE.f k w0 blk off d0) (hs:d0.size=d.size) (S:SWK bkE.f k w0 blk off d w) (ham:a<m) (hmb:m<b) (hb:b≤d.size) (hsz:d.size<4611686018427387904) :
  Calls Tryz.prog 220 #[.slice (some ⟨blk,off,none⟩) d.size cap,.int .i64 a,.int .i64 m,.int .i64 b,.func (.func g) #[] cb] w fun e w' => e = .returned (.tuple #[]) ∧ ∃d',Rot a m b d d' ∧ SWK bkE.f k w0 blk off d' w':=by
 have S0:Aside (SWK bkE.f k w0 blk off d w):=S;have HR:=Lib.hid R;clear S R;go_enter Tryz.func220,Tryz.ntmps220;go_wp2;go_loopg [10,11] (b - a) (fun kx s10 s11 wr => ∃(i j:Nat) (dk:Array Bkg),s10 = .int .i64 i∧s11 = .int .i64 j∧0<i∧0<j∧i≤m∧m+j≤d.size∧i+j≤kx∧dk.size=d.size∧Aside (∀d',Rot (m - i) m (m+j) dk d' → Rot a m b d d')∧Aside (SWK bkE.f k w0 blk off dk wr))
 case atStart=>exact ⟨m - a,b - m,d,by go_num,by go_num,by omega,by omega,by omega,by omega,by omega,rfl,(fun d' h=>by rwa [show m - (m - a)=a by omega,show m+(b - m)=b by omega] at h),S0⟩
 case round =>
  clear S0;obtain ⟨i,j,dk,rfl,rfl,hi,hj,him,hmj,hkx,hds,HT,S1⟩:=hrel;have eA:IntKind.i64.wrap ((m:Int) - (i:Int))=((m - i:Nat):Int):=by rw[IntKind.wrap_i64]; omega
  by_cases hne:i=j
  ·subst hne;have hz:¬ (i:Int) ≠ (i:Int):=by simp
   have HC:=Lib.hid (Xe k hk4 g cb blk off cap (m - i) m i d0 dk w0 wr HR.out (by omega) S1.out (by omega) (by omega) (by omega))
   rw[hds] at HC;have HL:=Lib.hid (HT.out _ (Rot.last (d:=dk) (a:=m - i) rfl him rfl (by omega)))
   clear HT S1;go_wp2_with (go_at_call 232; refine HC.out.mono ?_; rintro e w' ⟨rfl,S2⟩);go_end0;exact ⟨rfl,_,HL.out,S2⟩
  ·have hz:(i:Int) ≠ (j:Int):=by omega
   by_cases hlt:j<i
   ·have hltz:(j:Int)<(i:Int):=by omega
    have HC:=Lib.hid (Xe k hk4 g cb blk off cap (m - i) m j d0 dk w0 wr HR.out (by omega) S1.out (by omega) (by omega) (by omega))
    rw[hds] at HC;have HL:Aside (∀d',Rot (m - (i - j)) m (m+j) (swpR dk (m - i) m j) d' → Rot a m b d d'):=fun d' h=>HT.out d' (Rot.stepL (a:=m - i) rfl him rfl hlt (by omega) h)
    clear HT S1;go_wp2_with (go_at_call 232; refine HC.out.mono ?_; rintro e w' ⟨rfl,S2⟩);go_roundg ((i - j)+j)
    case measure=>omega
    case rel=>exact ⟨i - j,j,_,by go_num,rfl,by omega,hj,by omega,hmj,Nat.le_refl _,by rw[Xba]; exact hds,HL,S2⟩
   ·have hltz:¬ (j:Int)<(i:Int):=by omega
    have eB:IntKind.i64.wrap ((m:Int)+(j:Int))=((m+j:Nat):Int):=by rw[IntKind.wrap_i64]; omega
    have eD:(m:Int)+(j:Int) - (i:Int)=((m+j - i:Nat):Int):=by omega
    have HC:=Lib.hid (Xe k hk4 g cb blk off cap (m - i) (m+j - i) i d0 dk w0 wr HR.out (by omega) S1.out (by omega) (by omega) (by omega))
    rw[hds] at HC;have HL:Aside (∀d',Rot (m - i) m (m+(j - i)) (swpR dk (m - i) (m+j - i) i) d' → Rot a m b d d'):=fun d' h=>HT.out d' (Rot.stepR (a:=m - i) rfl him rfl (by omega) (by omega) h)
    clear HT S1;go_wp2_with (go_at_call 232; refine HC.out.mono ?_; rintro e w' ⟨rfl,S2⟩);go_roundg (i+(j - i))
    case measure=>omega
    case rel=>exact ⟨i,j - i,_,rfl,by go_num,hi,by omega,him,by omega,Nat.le_refl _,by rw[Xba]; exact hds,HL,S2⟩
end
section
attribute [-simp] Tryz.isAgg95 Tryz.sizeOf95 Tryz.typeInfo95
theorem Xm6 [Inhabited Bkg](k:Nat)(hk4:k=bkE.k)(cf:Bkg→Bkg→Int)(hw:SWO (ltOf cf))(g:Nat)(cb:Array Value)(blk off cap:Nat)(d0:Array Bkg)(w0:World)
  (eg:∀args w,(callFunc g args).run Tryz.prog w = .ok (.enter g args) w) (hC:CmpLays Tryz.prog g cb bkE.f k cf blk off d0.size w0) (R:RowK bkE.f k w0 blk off d0) (hsz:d0.size<4611686018427387904) :
  ∀(N a m b:Nat) (d:Array Bkg) (w:World),b - a≤N→a<m→m<b→b≤d.size→d.size=d0.size→SWK bkE.f k w0 blk off d w→SortedIn (ltOf cf) a m d→SortedIn (ltOf cf) m b d →
  Calls Tryz.prog 191 #[.slice (some ⟨blk,off,none⟩) d0.size cap,.int .i64 a,.int .i64 m,.int .i64 b,.func (.func g) #[] cb] w fun e w' => e = .returned (.tuple #[])∧StT3 bkE.f k (ltOf cf) w0 blk off a b d w':=by
 intro N
 induction N with
 | zero=>intro a m b d w h1 h2 h3; omega
 | succ N ih =>
 intro a m b d w hN ham hmb hb hs S h1 h2;have aE:∀w,(isAgg 95).run Tryz.prog w = .ok true w:=Tryz.isAgg95;have zE:∀w,(Go.sizeOf 95).run Tryz.prog w = .ok k w:=by rw[hk4]; exact Tryz.sizeOf95
 have HK4:=Lib.hid hk4;clear hk4;have mixed:Tryz.prog.follows Departure.mixedOrders=true:=by kernel_rfl
 have HS:Aside (SWK bkE.f k w0 blk off d w):=S;have H1:=Lib.hid h1;have H2:=Lib.hid h2;have HIH:=Lib.hid ih;have HCM:=Lib.hid hC;have HW:=Lib.hid hw;clear S h1 h2 ih hC hw
 by_cases hm1:m=a+1
 ·have z1:(m:Int) - (a:Int)=1:=by omega
  have HM1:=Lib.hid hm1;clear hm1;go_enter Tryz.func191,Tryz.ntmps191;go_wp2;go_loopg [10,11] (b - m) (fun kx sa sb wr => ∃(i j:Nat),sa = .int .i64 i∧sb = .int .i64 j∧j - i≤kx∧Aside (Cut (fun c=>ltOf cf d[c]! d[a]!) m b i j)∧Aside (SWK bkE.f k w0 blk off d wr))
  case atStart=>exact ⟨m,b,by first | rfl | go_num,by first | rfl | go_num,Nat.le_refl _,Cut.start _ (by omega),HS⟩
  case round =>
   obtain ⟨i,j,rfl,rfl,hkx,C,S1⟩:=hrel;have c1:=C.out.li; have c2:=C.out.ij; have c3:=C.out.jh
   by_cases hlt:i<j
   ·have hltz:(i:Int)<(j:Int):=by omega
    obtain ⟨h,hh⟩:∃h:Nat,h=(i+j) / 2:=⟨_,rfl⟩;have hmm:((i:Int)+(j:Int)) / 2=(h:Int):=by omega
    have hh1:i≤h:=by omega
    have hh2:h<j:=by omega
    clear hh
    skip
    have p0:(0:Int)≤((h:Nat):Int):=by omega
    have p1:(((h:Nat):Int)).toNat=h:=by omega
    have p2:((h:Nat):Int)<(d0.size:Int):=by omega
    have p3:(0:Int)≤((a:Nat):Int):=by omega
    have p4:(((a:Nat):Int)).toNat=a:=by omega
    have p5:((a:Nat):Int)<(d0.size:Int):=by omega
    obtain ⟨x,hx⟩:∃x,d[h]! = x:=⟨_,rfl⟩;obtain ⟨y,hy⟩:∃y,d[a]! = y:=⟨_,rfl⟩;have lj:∀n' os',Sem.run Tryz.prog (loadCellsFrom ⟨blk,off+(h) * k,none⟩ 0 k #[]) (grow (wr.drewN n') os') = .ok (bkE.f x).toArray (grow (wr.drewN n') os'):=fun n' os' => by rw[←hx]; exact S1.out.ld R hs Tryz.prog (h) (by omega) n' os'
    have lp:∀n' os',Sem.run Tryz.prog (loadCellsFrom ⟨blk,off+(a) * k,none⟩ 0 k #[]) (grow (wr.drewN n') os') = .ok (bkE.f y).toArray (grow (wr.drewN n') os'):=fun n' os' => by rw[←hy]; exact S1.out.ld R hs Tryz.prog (a) (by omega) n' os'
    have hcg:∀n' os',Calls Tryz.prog g (#[.agg (bkE.f x).toArray,.agg (bkE.f y).toArray] ++ cb) (grow (wr.drewN n') os') fun e w' => e = .returned (.int .i64 (cf x y)) ∧ ∃q os'',w' = grow ((grow (wr.drewN n') os').drewN q) os'':=fun n' os' => S1.out.cmp HCM.out hs x y n' os';have S2:Aside (∀n os,SWK bkE.f k w0 blk off d (grow (wr.drewN n) os)):=fun n os=>S1.out.grown n os;have HM:Aside (Mono (fun c=>ltOf cf d[c]! d[a]!) m b):=mono1 HW.out _ H2.out;have HXY:Aside (d[h]! = x∧d[a]! = y):=⟨hx,hy⟩;clear hx hy S1
    by_cases hlv:cf x y<0
    ·have hlb:decide (cf x y<0)=true:=by simpa using hlv
     go_wp2_with fail;go_quiet_grown (first | (go_at_fn g; refine Calls.grown_of (hcg _ _)))
     go_wp2;go_roundg (j - (h+1))
     case measure=>omega
     case rel=>exact ⟨h+1,j,by go_num,rfl,Nat.le_refl _,C.out.right HM.out hh1 hh2 (by simp only[HXY.out.1,HXY.out.2,ltOf]; simp[hlv]),S2.out _ _⟩
    ·have hlb:decide (cf x y<0)=false:=by simpa using hlv
     go_wp2_with fail;go_quiet_grown (first | (go_at_fn g; refine Calls.grown_of (hcg _ _)))
     go_wp2;go_roundg (h - i)
     case measure=>omega
     case rel=>exact ⟨i,h,rfl,rfl,Nat.le_refl _,C.out.left HM.out hh1 hh2 (by simp only[HXY.out.1,HXY.out.2,ltOf]; simp[hlv]),S2.out _ _⟩
   ·have hltz:¬ (i:Int)<(j:Int):=by omega
    obtain rfl:i=j:=by omega
    clear HS hltz hlt hkx c2;have CC:Aside (Cut (fun c=>ltOf cf d[c]! d[a]!) m b i i):=C.out;clear C;go_wp2;go_loopg [13] (i - 1 - a) (fun kx sk wr => ∃(kk:Nat) (dk:Array Bkg),sk = .int .i64 kk∧a≤kk∧kk+1≤i∧i - 1 - kk≤kx∧dk.size=d.size∧Aside (Rot a (a+1) (kk+1) d dk)∧Aside (SWK bkE.f k w0 blk off dk wr))
    case atStart=>exact ⟨a,d,rfl,Nat.le_refl _,by omega,Nat.le_refl _,rfl,Rot.none a (a+1) d (a+1) (Or.inr rfl) (by omega) (by omega),S1⟩
    case round =>
     clear S1;obtain ⟨kk,dk,rfl,k1,k2,hkx,hds,HT,S1⟩:=hrel
     by_cases hlt:kk+1<i
     ·have hltz:(kk:Int)<(i:Int) - 1:=by omega
      have eK:IntKind.i64.wrap ((kk:Int)+1)=((kk+1:Nat):Int):=by rw[IntKind.wrap_i64]; omega
      have HTN:=Lib.hid (HT.out.up k1 (by omega))
      have hdz:(swp dk kk (kk+1)).size=d.size:=by rw[size_swp]; exact hds
      clear HT;have pA:(0:Int)≤((kk:Nat):Int):=by omega
      have pB:(((kk:Nat):Int)).toNat=kk:=by omega
      have pC:((kk:Nat):Int)<(d0.size:Int):=by omega
      have pD:(0:Int)≤((kk+1:Nat):Int):=by omega
      have pE:(((kk+1:Nat):Int)).toNat=kk+1:=by omega
      have pF:((kk+1:Nat):Int)<(d0.size:Int):=by omega
      have S2:=S1.out.swapped R (kk) (kk+1) (by omega) (by omega)
      have S2:Aside _:=S2;have l44a:=S1.out.ld1 R (by omega) Tryz.prog (kk) (by omega)
      have l44b:=S1.out.ld1 R (by omega) Tryz.prog (kk+1) (by omega)
      have s44a:=S1.out.st1 R (by omega) Tryz.prog (kk) (by omega) dk[kk+1]!
      have s44b:=S1.out.st2 R (by omega) Tryz.prog (kk) (kk+1) (by omega) (by omega) dk[kk+1]! dk[kk]!
      have n44a:(bkE.f dk[kk]!).length=k:=R.hk _;have n44b:(bkE.f dk[kk+1]!).length=k:=R.hk _;generalize bkE.f dk[kk]! = cI44 at S2 l44a s44b n44a;generalize bkE.f dk[kk+1]! = cJ44 at S2 l44b s44a s44b n44b;clear S1;go_wp2_with fail;go_big_region_o;clear l44a l44b s44a s44b;generalize (wr.drew.setCells blk (off+(kk) * k) cJ44).setCells blk (off+(kk+1) * k) cI44=w2 at S2 ⊢;go_wp2;go_roundg (i - 1 - (kk+1))
      case measure=>omega
      case rel=>exact ⟨kk+1,_,by go_num,by omega,by omega,Nat.le_refl _,hdz,HTN,S2⟩
     ·have hltz:¬ (kk:Int)<(i:Int) - 1:=by omega
      obtain rfl:i=kk+1:=by omega
      have hM:=Xst HW.out (a:=a) (b:=b) (i:=kk+1) (by have:=H2.out; rwa [HM1.out] at this) (by have:=CC.out; rwa [HM1.out] at this) HT.out hb
      have HMM:=Lib.hid hM;clear hM;go_wp2
      first | go_end0 | (refine bodyPost_ret (results_none rfl _ _ _) rfl ?_)
      exact ⟨rfl,dk,HMM.out.1,HMM.out.2,S1.out⟩
 by_cases hb1:b=m+1
 ·have z1:((m:Int) - (a:Int) == 1)=false:=by rw[beq_eq_false_iff_ne]; omega
  have z2:(b:Int) - (m:Int)=1:=by omega
  have HB1:=Lib.hid hb1;clear hb1 hm1;go_enter Tryz.func191,Tryz.ntmps191;go_wp2;go_loopg [14,15] (m - a) (fun kx sa sb wr => ∃(i j:Nat),sa = .int .i64 i∧sb = .int .i64 j∧j - i≤kx∧Aside (Cut (fun c => !ltOf cf d[m]! d[c]!) a m i j)∧Aside (SWK bkE.f k w0 blk off d wr))
  case atStart=>exact ⟨a,m,by first | rfl | go_num,by first | rfl | go_num,Nat.le_refl _,Cut.start _ (by omega),HS⟩
  case round =>
   obtain ⟨i,j,rfl,rfl,hkx,C,S1⟩:=hrel;have c1:=C.out.li; have c2:=C.out.ij; have c3:=C.out.jh
   by_cases hlt:i<j
   ·have hltz:(i:Int)<(j:Int):=by omega
    obtain ⟨h,hh⟩:∃h:Nat,h=(i+j) / 2:=⟨_,rfl⟩;have hmm:((i:Int)+(j:Int)) / 2=(h:Int):=by omega
    have hh1:i≤h:=by omega
    have hh2:h<j:=by omega
    clear hh
    skip
    have p0:(0:Int)≤((m:Nat):Int):=by omega
    have p1:(((m:Nat):Int)).toNat=m:=by omega
    have p2:((m:Nat):Int)<(d0.size:Int):=by omega
    have p3:(0:Int)≤((h:Nat):Int):=by omega
    have p4:(((h:Nat):Int)).toNat=h:=by omega
    have p5:((h:Nat):Int)<(d0.size:Int):=by omega
    obtain ⟨x,hx⟩:∃x,d[m]! = x:=⟨_,rfl⟩;obtain ⟨y,hy⟩:∃y,d[h]! = y:=⟨_,rfl⟩;have lj:∀n' os',Sem.run Tryz.prog (loadCellsFrom ⟨blk,off+(m) * k,none⟩ 0 k #[]) (grow (wr.drewN n') os') = .ok (bkE.f x).toArray (grow (wr.drewN n') os'):=fun n' os' => by rw[←hx]; exact S1.out.ld R hs Tryz.prog (m) (by omega) n' os'
    have lp:∀n' os',Sem.run Tryz.prog (loadCellsFrom ⟨blk,off+(h) * k,none⟩ 0 k #[]) (grow (wr.drewN n') os') = .ok (bkE.f y).toArray (grow (wr.drewN n') os'):=fun n' os' => by rw[←hy]; exact S1.out.ld R hs Tryz.prog (h) (by omega) n' os'
    have hcg:∀n' os',Calls Tryz.prog g (#[.agg (bkE.f x).toArray,.agg (bkE.f y).toArray] ++ cb) (grow (wr.drewN n') os') fun e w' => e = .returned (.int .i64 (cf x y)) ∧ ∃q os'',w' = grow ((grow (wr.drewN n') os').drewN q) os'':=fun n' os' => S1.out.cmp HCM.out hs x y n' os';have S2:Aside (∀n os,SWK bkE.f k w0 blk off d (grow (wr.drewN n) os)):=fun n os=>S1.out.grown n os;have HM:Aside (Mono (fun c => !ltOf cf d[m]! d[c]!) a m):=mono2 HW.out _ H1.out;have HXY:Aside (d[m]! = x∧d[h]! = y):=⟨hx,hy⟩;clear hx hy S1
    by_cases hlv:cf x y<0
    ·have hlb:decide (cf x y<0)=true:=by simpa using hlv
     go_wp2_with fail;go_quiet_grown (first | (go_at_fn g; refine Calls.grown_of (hcg _ _)))
     go_wp2;go_roundg (h - i)
     case measure=>omega
     case rel=>exact ⟨i,h,rfl,rfl,Nat.le_refl _,C.out.left HM.out hh1 hh2 (by simp only[HXY.out.1,HXY.out.2,ltOf]; simp[hlv]),S2.out _ _⟩
    ·have hlb:decide (cf x y<0)=false:=by simpa using hlv
     go_wp2_with fail;go_quiet_grown (first | (go_at_fn g; refine Calls.grown_of (hcg _ _)))
     go_wp2;go_roundg (j - (h+1))
     case measure=>omega
     case rel=>exact ⟨h+1,j,by go_num,rfl,Nat.le_refl _,C.out.right HM.out hh1 hh2 (by simp only[HXY.out.1,HXY.out.2,ltOf]; simp[hlv]),S2.out _ _⟩
   ·have hltz:¬ (i:Int)<(j:Int):=by omega
    obtain rfl:i=j:=by omega
    clear HS hltz hlt hkx c2;have CC:Aside (Cut (fun c => !ltOf cf d[m]! d[c]!) a m i i):=C.out;clear C;go_wp2;go_loopg [17] (m - i) (fun kx sk wr => ∃(kk:Nat) (dk:Array Bkg),sk = .int .i64 kk∧i≤kk∧kk≤m∧kk - i≤kx∧dk.size=d.size∧Aside (Rot kk m (m+1) d dk)∧Aside (SWK bkE.f k w0 blk off dk wr))
    case atStart=>exact ⟨m,d,rfl,c3,Nat.le_refl _,Nat.le_refl _,rfl,Rot.none m (m+1) d m (Or.inl rfl) (by omega) (by omega),S1⟩
    case round =>
     clear S1;obtain ⟨kk0,dk,rfl,k1,k2,hkx,hds,HT,S1⟩:=hrel
     by_cases hlt:i<kk0
     ·obtain ⟨kk,rfl⟩:∃kk,kk0=kk+1:=⟨kk0 - 1,by omega⟩
      have hltz:(i:Int)<((kk+1:Nat):Int):=by omega
      have eK:IntKind.i64.wrap (((kk+1:Nat):Int) - 1)=(kk:Int):=by rw[IntKind.wrap_i64]; omega
      have HTN:=Lib.hid (HT.out.down k2 (by omega))
      have hdz:(swp dk (kk+1) kk).size=d.size:=by rw[size_swp]; exact hds
      clear HT;generalize hkn:kk+1=kn at *;have hk3:kn≤m∧kk<kn∧kk ≠ kn∧kn ≠ kk:=by omega
      have hkn':=Lib.hid hkn;clear hkn;have pA:(0:Int)≤((kn:Nat):Int):=by omega
      have pB:(((kn:Nat):Int)).toNat=kn:=by omega
      have pC:((kn:Nat):Int)<(d0.size:Int):=by omega
      have pD:(0:Int)≤((kk:Nat):Int):=by omega
      have pE:(((kk:Nat):Int)).toNat=kk:=by omega
      have pF:((kk:Nat):Int)<(d0.size:Int):=by omega
      have S2:=S1.out.swapped R (kn) (kk) (by omega) (by omega)
      have S2:Aside _:=S2;have l44a:=S1.out.ld1 R (by omega) Tryz.prog (kn) (by omega)
      have l44b:=S1.out.ld1 R (by omega) Tryz.prog (kk) (by omega)
      have s44a:=S1.out.st1 R (by omega) Tryz.prog (kn) (by omega) dk[kk]!
      have s44b:=S1.out.st2 R (by omega) Tryz.prog (kn) (kk) (by omega) (by omega) dk[kk]! dk[kn]!
      have n44a:(bkE.f dk[kn]!).length=k:=R.hk _;have n44b:(bkE.f dk[kk]!).length=k:=R.hk _;generalize bkE.f dk[kn]! = cI44 at S2 l44a s44b n44a;generalize bkE.f dk[kk]! = cJ44 at S2 l44b s44a s44b n44b;clear S1;go_wp2_with fail;go_big_region_o;clear l44a l44b s44a s44b;generalize (wr.drew.setCells blk (off+(kn) * k) cJ44).setCells blk (off+(kk) * k) cI44=w2 at S2 ⊢;go_wp2;go_roundg (kk - i)
      case measure=>have:=hkn'.out; omega
      case rel=>exact ⟨kk,_,by first | rfl | go_num,by have:=hkn'.out; omega,by have:=hkn'.out; omega,Nat.le_refl _,hdz,HTN,S2⟩
     ·have hltz:¬ (i:Int)<(kk0:Int):=by omega
      obtain rfl:i=kk0:=by omega
      have hM:=Xss HW.out (a:=a) (m:=m) (i:=i) H1.out CC.out HT.out (by omega)
      have HMM:=Lib.hid hM;clear hM;go_wp2
      first | go_end0 | (refine bodyPost_ret (results_none rfl _ _ _) rfl ?_)
      rw[HB1.out];exact ⟨rfl,dk,HMM.out.1,HMM.out.2,S1.out⟩
 have z1:((m:Int) - (a:Int) == 1)=false:=by rw[beq_eq_false_iff_ne]; omega
 have z2:((b:Int) - (m:Int) == 1)=false:=by rw[beq_eq_false_iff_ne]; omega
 clear hm1 hb1;obtain ⟨mid,hmid⟩:∃mid:Nat,mid=(a+b) / 2:=⟨_,rfl⟩;have hmd:((a:Int)+(b:Int)) / 2=(mid:Int):=by omega
 have HMID:=Lib.hid hmid;obtain ⟨n,hn⟩:∃n:Nat,n=mid+m:=⟨_,rfl⟩;have hnn:(mid:Int)+(m:Int)=(n:Int):=by omega
 obtain ⟨p,hp⟩:∃p:Nat,p=n - 1:=⟨_,rfl⟩;have hpp:(n:Int) - 1=(p:Int):=by omega
 have HN2:Hid (n=mid+m∧p=mid+m - 1):=⟨hn,by omega⟩
 have am:a<mid∧mid<b:=by omega
 by_cases hmm1:mid<m
 ·have zm:(mid:Int)<(m:Int):=by omega
  obtain ⟨lo,hlo⟩:∃lo:Nat,lo=n - b:=⟨_,rfl⟩;have hll:(n:Int) - (b:Int)=(lo:Int):=by omega
  have HLO:Hid (lo=if mid<m then mid+m - b else a):=by show lo=_; rw[if_pos hmm1]; omega
  have HHI:Hid (mid=if mid<m then mid else m):=by show mid=_; rw[if_pos hmm1]
  have lb1:a≤lo∧lo≤mid∧mid≤m∧p - lo<b∧m≤p - (mid - 1)∧mid≤p+1:=by omega
  clear hmid hn hp hlo hmm1;go_enter Tryz.func191,Tryz.ntmps191;go_wp2;go_loopg [20,21] (mid - lo) (fun kx sa sb wr => ∃(i j:Nat),sa = .int .i64 i∧sb = .int .i64 j∧j - i≤kx∧Aside (Cut (fun c => !ltOf cf d[p - c]! d[c]!) lo mid i j)∧Aside (SWK bkE.f k w0 blk off d wr))
  case atStart=>exact ⟨lo,mid,by first | rfl | go_num,by first | rfl | go_num,Nat.le_refl _,Cut.start _ (by omega),HS⟩
  case round =>
   obtain ⟨i,j,rfl,rfl,hkx,C,S1⟩:=hrel;have c1:=C.out.li; have c2:=C.out.ij; have c3:=C.out.jh
   by_cases hlt:i<j
   ·have hltz:(i:Int)<(j:Int):=by omega
    obtain ⟨h,hh⟩:∃h:Nat,h=(i+j) / 2:=⟨_,rfl⟩;have hmm:((i:Int)+(j:Int)) / 2=(h:Int):=by omega
    have hh1:i≤h:=by omega
    have hh2:h<j:=by omega
    clear hh;have hpc:IntKind.i64.wrap ((p:Int) - (h:Int))=((p - h:Nat):Int):=by rw[IntKind.wrap_i64]; omega
    have p0:(0:Int)≤((p - h:Nat):Int):=by omega
    have p1:(((p - h:Nat):Int)).toNat=p - h:=by omega
    have p2:((p - h:Nat):Int)<(d0.size:Int):=by omega
    have p3:(0:Int)≤((h:Nat):Int):=by omega
    have p4:(((h:Nat):Int)).toNat=h:=by omega
    have p5:((h:Nat):Int)<(d0.size:Int):=by omega
    obtain ⟨x,hx⟩:∃x,d[p - h]! = x:=⟨_,rfl⟩;obtain ⟨y,hy⟩:∃y,d[h]! = y:=⟨_,rfl⟩;have lj:∀n' os',Sem.run Tryz.prog (loadCellsFrom ⟨blk,off+(p - h) * k,none⟩ 0 k #[]) (grow (wr.drewN n') os') = .ok (bkE.f x).toArray (grow (wr.drewN n') os'):=fun n' os' => by rw[←hx]; exact S1.out.ld R hs Tryz.prog (p - h) (by omega) n' os'
    have lp:∀n' os',Sem.run Tryz.prog (loadCellsFrom ⟨blk,off+(h) * k,none⟩ 0 k #[]) (grow (wr.drewN n') os') = .ok (bkE.f y).toArray (grow (wr.drewN n') os'):=fun n' os' => by rw[←hy]; exact S1.out.ld R hs Tryz.prog (h) (by omega) n' os'
    have hcg:∀n' os',Calls Tryz.prog g (#[.agg (bkE.f x).toArray,.agg (bkE.f y).toArray] ++ cb) (grow (wr.drewN n') os') fun e w' => e = .returned (.int .i64 (cf x y)) ∧ ∃q os'',w' = grow ((grow (wr.drewN n') os').drewN q) os'':=fun n' os' => S1.out.cmp HCM.out hs x y n' os';have S2:Aside (∀n os,SWK bkE.f k w0 blk off d (grow (wr.drewN n) os)):=fun n os=>S1.out.grown n os;have HM:Aside (Mono (fun c => !ltOf cf d[p - c]! d[c]!) lo mid):=Xrr HW.out H1.out H2.out lb1.1 lb1.2.2.1 lb1.2.2.2.1 lb1.2.2.2.2.1 lb1.2.2.2.2.2;have HXY:Aside (d[p - h]! = x∧d[h]! = y):=⟨hx,hy⟩;clear hx hy S1
    by_cases hlv:cf x y<0
    ·have hlb:decide (cf x y<0)=true:=by simpa using hlv
     go_wp2_with fail;go_quiet_grown (first | (go_at_fn g; refine Calls.grown_of (hcg _ _)))
     go_wp2;go_roundg (h - i)
     case measure=>omega
     case rel=>exact ⟨i,h,rfl,rfl,Nat.le_refl _,C.out.left HM.out hh1 hh2 (by simp only[HXY.out.1,HXY.out.2,ltOf]; simp[hlv]),S2.out _ _⟩
    ·have hlb:decide (cf x y<0)=false:=by simpa using hlv
     go_wp2_with fail;go_quiet_grown (first | (go_at_fn g; refine Calls.grown_of (hcg _ _)))
     go_wp2;go_roundg (j - (h+1))
     case measure=>omega
     case rel=>exact ⟨h+1,j,by go_num,rfl,Nat.le_refl _,C.out.right HM.out hh1 hh2 (by simp only[HXY.out.1,HXY.out.2,ltOf]; simp[hlv]),S2.out _ _⟩
   ·have hltz:¬ (i:Int)<(j:Int):=by omega
    obtain rfl:i=j:=by omega
    clear HS hltz hlt hkx c2;have C2:=C.out;rw[HN2.out.2] at C2;have e0:i≤n:=by have:=HN2.out; omega
    obtain ⟨e,he⟩:∃e:Nat,e=n - i:=⟨_,rfl⟩;have hee:(n:Int) - (i:Int)=(e:Int):=by omega
    have hem:mid+m - i=e:=by have:=HN2.out; omega
    have HH:=fun d' (h:Rot i m e d d')=>halves HW.out H1.out H2.out HMID.out ham hmb HLO.out HHI.out C2 (by rw[hem]; exact h) hb
    rw[hem] at HH;have e1:a≤i∧i≤mid∧i≤m∧mid≤e∧m≤e∧e≤b:=by have:=HN2.out; have:=HLO.out; have:=HHI.out; have:=HMID.out; omega
    have HT1:Aside (∀d' w',Rot i m e d d' → SWK bkE.f k w0 blk off d' w' → StT1 bkE.f k (ltOf cf) w0 blk off a b i mid e d w'):=fun d' w' hr hS=>⟨d',(HH d' hr).2.2.2.2.2.2.1,(HH d' hr).2.2.2.2.2.2.2,hS⟩;have HROT:Aside (i<m→m<e→Calls Tryz.prog 220 #[.slice (some ⟨blk,off,none⟩) d0.size cap,.int .i64 i,.int .i64 m,.int .i64 e,.func (.func g) #[] cb] wr fun ee w' => ee = .returned (.tuple #[])∧StT1 bkE.f k (ltOf cf) w0 blk off a b i mid e d w'):=fun r1 r2=>by
     have h:=Xky k HK4.out g cb blk off cap i m e d0 d w0 wr R hs.symm S1.out r1 r2 (by omega) (by omega)
     rw[hs] at h;refine h.mono ?_;rintro ee w' ⟨rfl,d',hr,hS⟩;exact ⟨rfl,HT1.out d' w' hr hS⟩
    have HN1:Aside (¬ (i<m∧m<e)→StT1 bkE.f k (ltOf cf) w0 blk off a b i mid e d wr):=fun hno=>HT1.out d wr (Rot.none i e d m (by omega) (by omega) (by omega)) S1.out
    have HLEFT:Aside (a<i→i<mid → ∀w,StT1 bkE.f k (ltOf cf) w0 blk off a b i mid e d w→Calls Tryz.prog 191 #[.slice (some ⟨blk,off,none⟩) d0.size cap,.int .i64 a,.int .i64 i,.int .i64 mid,.func (.func g) #[] cb] w fun ee w' => ee = .returned (.tuple #[])∧StT2 bkE.f k (ltOf cf) w0 blk off a b i mid e d w'):=fun r1 r2 w ⟨d1,p1,H,S⟩=>by
     have z1:d1.size=d.size:=p1.1;refine (HIH.out a i mid d1 w (by omega) r1 r2 (by omega) (by omega) S H.as H.sm).mono ?_
     rintro ee w' ⟨rfl,d2,p2,s2,S2⟩;exact ⟨rfl,d1,d2,p1,H,p2,s2,S2⟩
    have HN2':Aside (¬ (a<i∧i<mid) → ∀w,StT1 bkE.f k (ltOf cf) w0 blk off a b i mid e d w→StT2 bkE.f k (ltOf cf) w0 blk off a b i mid e d w):=fun hno w t=>StT1.skip e1.1 hno t;have HRIGHT:Aside (mid<e→e<b → ∀w,StT2 bkE.f k (ltOf cf) w0 blk off a b i mid e d w→Calls Tryz.prog 191 #[.slice (some ⟨blk,off,none⟩) d0.size cap,.int .i64 mid,.int .i64 e,.int .i64 b,.func (.func g) #[] cb] w fun ee w' => ee = .returned (.tuple #[])∧StT3 bkE.f k (ltOf cf) w0 blk off a b d w'):=fun r1 r2 w t=>by
     have t0:=t;obtain ⟨d1,d2,p1,H,p2,s2,S⟩:=t0;have z1:d1.size=d.size:=p1.1;have z2:d2.size=d1.size:=p2.1;have hsame:∀t,mid≤t→t<b→d2[t]! = d1[t]! := fun t h1 _=>p2.2.1 t (Or.inr h1);refine (HIH.out mid e b d2 w (by omega) r1 r2 (by omega) (by omega) S (SortedIn.same H.me fun t h1 h2=>hsame t h1 (by omega)) (SortedIn.same H.eb fun t h1 h2=>hsame t (by omega) h2)).mono ?_
     rintro ee w' ⟨rfl,d3,p3,s3,S3⟩;have hd:=Xc6 H e1.1 e1.2.1 e1.2.2.2.1 e1.2.2.2.2.2 (by omega) p2 s2 p3 s3
     exact ⟨rfl,d3,permIn_trans _ _ _ _ _ p1 hd.1,hd.2,S3⟩
    have HN3:Aside (¬ (mid<e∧e<b) → ∀w,StT2 bkE.f k (ltOf cf) w0 blk off a b i mid e d w→StT3 bkE.f k (ltOf cf) w0 blk off a b d w):=fun hno w t=>StT2.skip e1.1 e1.2.1 e1.2.2.2.1 e1.2.2.2.2.2 hb hno t;have HEM:=Lib.hid hem;have HE1:=Lib.hid e1;clear HH HT1 S1 C C2 he hem e1 c1 c3
    by_cases x1:(i:Int)<(m:Int) <;> by_cases x2:(m:Int)<(e:Int) <;> by_cases x3:(a:Int)<(i:Int) <;> by_cases x4:(i:Int)<(mid:Int) <;> by_cases x5:(mid:Int)<(e:Int) <;> by_cases x6:(e:Int)<(b:Int)
    all_goals first
     | (exfalso; have:=HEM.out; have:=HE1.out; omega)
     | (go_wp2_with (first
         | (go_at_call 220
            with_reducible refine (HROT.out (by omega) (by omega)).mono ?_
            rintro ee wa ⟨rfl,t1⟩;have t1:Aside (StT1 bkE.f k (ltOf cf) w0 blk off a b i mid e d wa):=t1)
         | (go_at_call 191
            with_reducible refine (HLEFT.out (by omega) (by omega) _ (by first | exact t1.out | exact HN1.out (by omega))).mono ?_
            rintro ee wb ⟨rfl,t2⟩;have t2:Aside (StT2 bkE.f k (ltOf cf) w0 blk off a b i mid e d wb):=t2)
         | (go_at_call 191
            with_reducible refine (HRIGHT.out (by omega) (by omega) _ (by first | exact t2.out | exact HN2'.out (by omega) _ t1.out | exact HN2'.out (by omega) _ (HN1.out (by omega)))).mono ?_
            rintro ee wc ⟨rfl,t3⟩;have t3:Aside (StT3 bkE.f k (ltOf cf) w0 blk off a b d wc):=t3))
        go_end0;exact ⟨rfl,by first | exact t3.out | exact HN3.out (by omega) _ t2.out | exact HN3.out (by omega) _ (HN2'.out (by omega) _ t1.out) | exact HN3.out (by omega) _ (HN2'.out (by omega) _ (HN1.out (by omega)))⟩)
 ·have zm:¬ (mid:Int)<(m:Int):=by omega
  have HLO:Hid (a=if mid<m then mid+m - b else a):=by show a=_; rw[if_neg hmm1]
  have HHI:Hid (m=if mid<m then mid else m):=by show m=_; rw[if_neg hmm1]
  have lb1:a≤a∧a≤m∧m≤m∧p - a<b∧m≤p - (m - 1)∧m≤p+1:=by omega
  clear hmid hn hp hmm1;go_enter Tryz.func191,Tryz.ntmps191;go_wp2;go_loopg [20,21] (m - a) (fun kx sa sb wr => ∃(i j:Nat),sa = .int .i64 i∧sb = .int .i64 j∧j - i≤kx∧Aside (Cut (fun c => !ltOf cf d[p - c]! d[c]!) a m i j)∧Aside (SWK bkE.f k w0 blk off d wr))
  case atStart=>exact ⟨a,m,by first | rfl | go_num,by first | rfl | go_num,Nat.le_refl _,Cut.start _ (by omega),HS⟩
  case round =>
   obtain ⟨i,j,rfl,rfl,hkx,C,S1⟩:=hrel;have c1:=C.out.li; have c2:=C.out.ij; have c3:=C.out.jh
   by_cases hlt:i<j
   ·have hltz:(i:Int)<(j:Int):=by omega
    obtain ⟨h,hh⟩:∃h:Nat,h=(i+j) / 2:=⟨_,rfl⟩;have hmm:((i:Int)+(j:Int)) / 2=(h:Int):=by omega
    have hh1:i≤h:=by omega
    have hh2:h<j:=by omega
    clear hh;have hpc:IntKind.i64.wrap ((p:Int) - (h:Int))=((p - h:Nat):Int):=by rw[IntKind.wrap_i64]; omega
    have p0:(0:Int)≤((p - h:Nat):Int):=by omega
    have p1:(((p - h:Nat):Int)).toNat=p - h:=by omega
    have p2:((p - h:Nat):Int)<(d0.size:Int):=by omega
    have p3:(0:Int)≤((h:Nat):Int):=by omega
    have p4:(((h:Nat):Int)).toNat=h:=by omega
    have p5:((h:Nat):Int)<(d0.size:Int):=by omega
    obtain ⟨x,hx⟩:∃x,d[p - h]! = x:=⟨_,rfl⟩;obtain ⟨y,hy⟩:∃y,d[h]! = y:=⟨_,rfl⟩;have lj:∀n' os',Sem.run Tryz.prog (loadCellsFrom ⟨blk,off+(p - h) * k,none⟩ 0 k #[]) (grow (wr.drewN n') os') = .ok (bkE.f x).toArray (grow (wr.drewN n') os'):=fun n' os' => by rw[←hx]; exact S1.out.ld R hs Tryz.prog (p - h) (by omega) n' os'
    have lp:∀n' os',Sem.run Tryz.prog (loadCellsFrom ⟨blk,off+(h) * k,none⟩ 0 k #[]) (grow (wr.drewN n') os') = .ok (bkE.f y).toArray (grow (wr.drewN n') os'):=fun n' os' => by rw[←hy]; exact S1.out.ld R hs Tryz.prog (h) (by omega) n' os'
    have hcg:∀n' os',Calls Tryz.prog g (#[.agg (bkE.f x).toArray,.agg (bkE.f y).toArray] ++ cb) (grow (wr.drewN n') os') fun e w' => e = .returned (.int .i64 (cf x y)) ∧ ∃q os'',w' = grow ((grow (wr.drewN n') os').drewN q) os'':=fun n' os' => S1.out.cmp HCM.out hs x y n' os';have S2:Aside (∀n os,SWK bkE.f k w0 blk off d (grow (wr.drewN n) os)):=fun n os=>S1.out.grown n os;have HM:Aside (Mono (fun c => !ltOf cf d[p - c]! d[c]!) a m):=Xrr HW.out H1.out H2.out lb1.1 lb1.2.2.1 lb1.2.2.2.1 lb1.2.2.2.2.1 lb1.2.2.2.2.2;have HXY:Aside (d[p - h]! = x∧d[h]! = y):=⟨hx,hy⟩;clear hx hy S1
    by_cases hlv:cf x y<0
    ·have hlb:decide (cf x y<0)=true:=by simpa using hlv
     go_wp2_with fail;go_quiet_grown (first | (go_at_fn g; refine Calls.grown_of (hcg _ _)))
     go_wp2;go_roundg (h - i)
     case measure=>omega
     case rel=>exact ⟨i,h,rfl,rfl,Nat.le_refl _,C.out.left HM.out hh1 hh2 (by simp only[HXY.out.1,HXY.out.2,ltOf]; simp[hlv]),S2.out _ _⟩
    ·have hlb:decide (cf x y<0)=false:=by simpa using hlv
     go_wp2_with fail;go_quiet_grown (first | (go_at_fn g; refine Calls.grown_of (hcg _ _)))
     go_wp2;go_roundg (j - (h+1))
     case measure=>omega
     case rel=>exact ⟨h+1,j,by go_num,rfl,Nat.le_refl _,C.out.right HM.out hh1 hh2 (by simp only[HXY.out.1,HXY.out.2,ltOf]; simp[hlv]),S2.out _ _⟩
   ·have hltz:¬ (i:Int)<(j:Int):=by omega
    obtain rfl:i=j:=by omega
    clear HS hltz hlt hkx c2;have C2:=C.out;rw[HN2.out.2] at C2;have e0:i≤n:=by have:=HN2.out; omega
    obtain ⟨e,he⟩:∃e:Nat,e=n - i:=⟨_,rfl⟩;have hee:(n:Int) - (i:Int)=(e:Int):=by omega
    have hem:mid+m - i=e:=by have:=HN2.out; omega
    have HH:=fun d' (h:Rot i m e d d')=>halves HW.out H1.out H2.out HMID.out ham hmb HLO.out HHI.out C2 (by rw[hem]; exact h) hb
    rw[hem] at HH;have e1:a≤i∧i≤mid∧i≤m∧mid≤e∧m≤e∧e≤b:=by have:=HN2.out; have:=HLO.out; have:=HHI.out; have:=HMID.out; omega
    have HT1:Aside (∀d' w',Rot i m e d d' → SWK bkE.f k w0 blk off d' w' → StT1 bkE.f k (ltOf cf) w0 blk off a b i mid e d w'):=fun d' w' hr hS=>⟨d',(HH d' hr).2.2.2.2.2.2.1,(HH d' hr).2.2.2.2.2.2.2,hS⟩;have HROT:Aside (i<m→m<e→Calls Tryz.prog 220 #[.slice (some ⟨blk,off,none⟩) d0.size cap,.int .i64 i,.int .i64 m,.int .i64 e,.func (.func g) #[] cb] wr fun ee w' => ee = .returned (.tuple #[])∧StT1 bkE.f k (ltOf cf) w0 blk off a b i mid e d w'):=fun r1 r2=>by
     have h:=Xky k HK4.out g cb blk off cap i m e d0 d w0 wr R hs.symm S1.out r1 r2 (by omega) (by omega)
     rw[hs] at h;refine h.mono ?_;rintro ee w' ⟨rfl,d',hr,hS⟩;exact ⟨rfl,HT1.out d' w' hr hS⟩
    have HN1:Aside (¬ (i<m∧m<e)→StT1 bkE.f k (ltOf cf) w0 blk off a b i mid e d wr):=fun hno=>HT1.out d wr (Rot.none i e d m (by omega) (by omega) (by omega)) S1.out
    have HLEFT:Aside (a<i→i<mid → ∀w,StT1 bkE.f k (ltOf cf) w0 blk off a b i mid e d w→Calls Tryz.prog 191 #[.slice (some ⟨blk,off,none⟩) d0.size cap,.int .i64 a,.int .i64 i,.int .i64 mid,.func (.func g) #[] cb] w fun ee w' => ee = .returned (.tuple #[])∧StT2 bkE.f k (ltOf cf) w0 blk off a b i mid e d w'):=fun r1 r2 w ⟨d1,p1,H,S⟩=>by
     have z1:d1.size=d.size:=p1.1;refine (HIH.out a i mid d1 w (by omega) r1 r2 (by omega) (by omega) S H.as H.sm).mono ?_
     rintro ee w' ⟨rfl,d2,p2,s2,S2⟩;exact ⟨rfl,d1,d2,p1,H,p2,s2,S2⟩
    have HN2':Aside (¬ (a<i∧i<mid) → ∀w,StT1 bkE.f k (ltOf cf) w0 blk off a b i mid e d w→StT2 bkE.f k (ltOf cf) w0 blk off a b i mid e d w):=fun hno w t=>StT1.skip e1.1 hno t;have HRIGHT:Aside (mid<e→e<b → ∀w,StT2 bkE.f k (ltOf cf) w0 blk off a b i mid e d w→Calls Tryz.prog 191 #[.slice (some ⟨blk,off,none⟩) d0.size cap,.int .i64 mid,.int .i64 e,.int .i64 b,.func (.func g) #[] cb] w fun ee w' => ee = .returned (.tuple #[])∧StT3 bkE.f k (ltOf cf) w0 blk off a b d w'):=fun r1 r2 w t=>by
     have t0:=t;obtain ⟨d1,d2,p1,H,p2,s2,S⟩:=t0;have z1:d1.size=d.size:=p1.1;have z2:d2.size=d1.size:=p2.1;have hsame:∀t,mid≤t→t<b→d2[t]! = d1[t]! := fun t h1 _=>p2.2.1 t (Or.inr h1);refine (HIH.out mid e b d2 w (by omega) r1 r2 (by omega) (by omega) S (SortedIn.same H.me fun t h1 h2=>hsame t h1 (by omega)) (SortedIn.same H.eb fun t h1 h2=>hsame t (by omega) h2)).mono ?_
     rintro ee w' ⟨rfl,d3,p3,s3,S3⟩;have hd:=Xc6 H e1.1 e1.2.1 e1.2.2.2.1 e1.2.2.2.2.2 (by omega) p2 s2 p3 s3
     exact ⟨rfl,d3,permIn_trans _ _ _ _ _ p1 hd.1,hd.2,S3⟩
    have HN3:Aside (¬ (mid<e∧e<b) → ∀w,StT2 bkE.f k (ltOf cf) w0 blk off a b i mid e d w→StT3 bkE.f k (ltOf cf) w0 blk off a b d w):=fun hno w t=>StT2.skip e1.1 e1.2.1 e1.2.2.2.1 e1.2.2.2.2.2 hb hno t;have HEM:=Lib.hid hem;have HE1:=Lib.hid e1;clear HH HT1 S1 C C2 he hem e1 c1 c3
    by_cases x1:(i:Int)<(m:Int) <;> by_cases x2:(m:Int)<(e:Int) <;> by_cases x3:(a:Int)<(i:Int) <;> by_cases x4:(i:Int)<(mid:Int) <;> by_cases x5:(mid:Int)<(e:Int) <;> by_cases x6:(e:Int)<(b:Int)
    all_goals first
     | (exfalso; have:=HEM.out; have:=HE1.out; omega)
     | (go_wp2_with (first
         | (go_at_call 220
            with_reducible refine (HROT.out (by omega) (by omega)).mono ?_
            rintro ee wa ⟨rfl,t1⟩;have t1:Aside (StT1 bkE.f k (ltOf cf) w0 blk off a b i mid e d wa):=t1)
         | (go_at_call 191
            with_reducible refine (HLEFT.out (by omega) (by omega) _ (by first | exact t1.out | exact HN1.out (by omega))).mono ?_
            rintro ee wb ⟨rfl,t2⟩;have t2:Aside (StT2 bkE.f k (ltOf cf) w0 blk off a b i mid e d wb):=t2)
         | (go_at_call 191
            with_reducible refine (HRIGHT.out (by omega) (by omega) _ (by first | exact t2.out | exact HN2'.out (by omega) _ t1.out | exact HN2'.out (by omega) _ (HN1.out (by omega)))).mono ?_
            rintro ee wc ⟨rfl,t3⟩;have t3:Aside (StT3 bkE.f k (ltOf cf) w0 blk off a b d wc):=t3))
        go_end0;exact ⟨rfl,by first | exact t3.out | exact HN3.out (by omega) _ t2.out | exact HN3.out (by omega) _ (HN2'.out (by omega) _ t1.out) | exact HN3.out (by omega) _ (HN2'.out (by omega) _ (HN1.out (by omega)))⟩)
end
section
attribute [-simp] Tryz.isAgg95 Tryz.sizeOf95 Tryz.typeInfo95
theorem Xmo [Inhabited Bkg](cf:Bkg→Bkg→Int)(hw:SWO (ltOf cf))(g:Nat)(cb:Array Value)(blk off cap:Nat)(d0:Array Bkg)(w0:World)
  (eg:∀args w,(callFunc g args).run Tryz.prog w = .ok (.enter g args) w) (hC:CmpLays Tryz.prog g cb bkE.f bkE.k cf blk off d0.size w0) (R:RowK bkE.f bkE.k w0 blk off d0) (hsz:d0.size≤1000000000)
  (a b:Nat) (d:Array Bkg) (w:World) (hab:a≤b) (hb:b≤d0.size) (hs:d.size=d0.size) (S:SWK bkE.f bkE.k w0 blk off d w) :
  Calls Tryz.prog 190 #[.slice (some ⟨blk,off,none⟩) d0.size cap,.int .i64 a,.int .i64 b,.func (.func g) #[] cb] w fun e w' => e = .returned (.tuple #[]) ∧ ∃d',PermIn a b d d' ∧ SortedIn (ltOf cf) a b d' ∧ SWK bkE.f bkE.k w0 blk off d' w':=by
 have hC2:CmpLays Tryz.prog g cb bkE.f bkE.k cf blk off d.size w:=fun m os dk hk x y=>by
  obtain ⟨n1,o1,h1⟩:=S.on R.hblk m dk os hk;rw[h1];exact hC n1 o1 dk (by omega) x y
 have h:=AnyQ.insertionSortCmpFunc Tryz.insBk bkE.k Tryz.isAgg95 Tryz.sizeOf95 bkE.f R.hk R.h1 cf g cb blk off cap a b d w eg hC2 (S.holds R.hblk R.hH hs) (S.lt R.hblk) hab (by omega) (by omega)
 have hp:=Sort.insertionSort_holds (lt:=ltOf cf) hw d a b hab (by omega)
 change Calls Tryz.prog 190 _ _ _ at h
 rw[hs] at h;refine h.mono ?_;rintro e w' ⟨rfl,n,os,rfl⟩;exact ⟨rfl,_,hp.1,hp.2,S.on R.hblk n _ os hp.1.1⟩
end
theorem Xpi [Inhabited Bkg](cf:Bkg→Bkg→Int)(hw:SWO (ltOf cf))(g:Nat)(cb:Array Value)(blk off cap:Nat)(d0:Array Bkg)(w0:World)
  (eg:∀args w,(callFunc g args).run Tryz.prog w = .ok (.enter g args) w) (hC:CmpLays Tryz.prog g cb bkE.f bkE.k cf blk off d0.size w0) (R:RowK bkE.f bkE.k w0 blk off d0) (hsz:d0.size≤1000000000) :
  Calls Tryz.prog 147 #[.slice (some ⟨blk,off,none⟩) d0.size cap,.int .i64 d0.size,.func (.func g) #[] cb] w0 fun e w' => e = .returned (.tuple #[]) ∧ ∃d',PermIn 0 d0.size d0 d' ∧ SortedIn (ltOf cf) 0 d0.size d' ∧ SWK bkE.f bkE.k w0 blk off d' w':=by
 have HI:=Lib.hid (fun a b d w hab hb hs S=>Xmo cf hw g cb blk off cap d0 w0 eg hC R hsz a b d w hab hb hs S);have HM:=Lib.hid (fun a m b d w h1 h2 h3 hs S s1 s2=>Xm6 bkE.k rfl cf hw g cb blk off cap d0 w0 eg hC R (by omega) (b - a) a m b d w (Nat.le_refl _) h1 h2 h3 hs S s1 s2)
 have HS0:=Lib.hid (SWK.start R.hH);clear hC R hw;generalize hN:d0.size=N at *;have HNN:=Lib.hid hN;clear hN;go_enter Tryz.func147,Tryz.ntmps147;go_wp2_with fail;go_loopg [7,8] N (fun kx s7 s8 wr => ∃(a:Nat) (dk:Array Bkg),s7 = .int .i64 a∧s8 = .int .i64 ((a+20:Nat):Int)∧a≤N∧N - a≤kx∧Hid (20 ∣ a∧PermIn 0 N d0 dk∧BlkP (ltOf cf) 20 0 a dk∧SWK bkE.f bkE.k w0 blk off dk wr))
 case atStart=>exact ⟨0,d0,rfl,rfl,Nat.zero_le _,Nat.le_refl _,⟨by omega,permIn_refl _ _ _,BlkP.nil _ _,HS0.out⟩⟩
 case round =>
  clear HS0;obtain ⟨a,dk,rfl,rfl,haN,hkx,HK⟩:=hrel;have HDZ:Hid (dk.size=N):=by have:=HK.out.2.1.1; have:=HNN.out; show _=_; omega
  by_cases hlt:a+20≤N
  ·have hltz:((a+20:Nat):Int)≤(N:Int):=by omega
   have HC:=Lib.hid (HI.out a (a+20) dk wr (by omega) hlt (by have:=HDZ.out; have:=HNN.out; omega) HK.out.2.2.2)
   go_wp2_with (go_at_call 190; refine HC.out.mono ?_; rintro e w1 ⟨rfl,d1,p1,s1,S1⟩);go_roundg (N - (a+20))
   case measure=>omega
   case rel =>
    refine ⟨a+20,d1,by first | rfl | go_num,by go_num,hlt,Nat.le_refl _,⟨by have:=HK.out.1; omega,permIn_trans _ _ _ _ _ HK.out.2.1 (permIn_mono _ _ _ _ _ _ (Nat.zero_le _) hlt (by have:=HDZ.out; omega) p1),BlkP.snoc HK.out.2.2.1 HK.out.1 s1 p1,S1⟩⟩
  ·have hltz:¬ ((a+20:Nat):Int)≤(N:Int):=by omega
   have HC:=Lib.hid (HI.out a N dk wr haN (Nat.le_refl _) (by have:=HDZ.out; have:=HNN.out; omega) HK.out.2.2.2)
   go_wp2_with (go_at_call 190; refine HC.out.mono ?_; rintro e w1 ⟨rfl,d1,p1,s1,S1⟩);have HQ:Hid (PermIn 0 N d0 d1∧BlkP (ltOf cf) 20 0 N d1∧SWK bkE.f bkE.k w0 blk off d1 w1):=⟨permIn_trans _ _ _ _ _ HK.out.2.1 (permIn_mono _ _ _ _ _ _ (Nat.zero_le _) (Nat.le_refl _) (by have:=HDZ.out; omega) p1),BlkP.snoc HK.out.2.2.1 HK.out.1 s1 p1,S1⟩
   clear HK p1 s1 S1;go_loopg [6,7,8,9] (N+1) (fun kx s6 s7 s8 s9 wr => ∃(bs:Nat) (dk:Array Bkg),s6 = .int .i64 bs∧0<bs∧bs≤2 * N+20∧N - bs≤kx∧Hid (PermIn 0 N d0 dk∧BlkP (ltOf cf) bs 0 N dk∧SWK bkE.f bkE.k w0 blk off dk wr))
   case atStart=>exact ⟨20,d1,rfl,by omega,by omega,by omega,HQ⟩
   case round =>
    clear HQ HDZ;obtain ⟨bs,dk,rfl,hb0,hbN,hkx2,HK⟩:=hrel
    by_cases hlb:bs<N
    ·have hlbz:(bs:Int)<(N:Int):=by omega
     have hb2:IntKind.i64.wrap ((2:Int) * (bs:Int))=((2 * bs:Nat):Int):=by rw[IntKind.wrap_i64]; omega
     have hb3:IntKind.i64.wrap ((bs:Int) * (2:Int))=((2 * bs:Nat):Int):=by rw[IntKind.wrap_i64]; omega
     go_wp2_with fail;go_loopg [7,8] N (fun kx s7 s8 wr => ∃(a:Nat) (dk:Array Bkg),s7 = .int .i64 a∧s8 = .int .i64 ((a+2 * bs:Nat):Int)∧a≤N∧N - a≤kx∧Hid (2 * bs ∣ a∧PermIn 0 N d0 dk∧BlkP (ltOf cf) (2 * bs) 0 a dk∧BlkP (ltOf cf) bs a N dk∧SWK bkE.f bkE.k w0 blk off dk wr))
     case atStart=>exact ⟨0,dk,rfl,by go_num,Nat.zero_le _,Nat.le_refl _,⟨⟨0,by omega⟩,HK.out.1,BlkP.nil _ _,HK.out.2.1,HK.out.2.2⟩⟩
     case round =>
      clear HK;obtain ⟨a2,dj,rfl,rfl,ha2,hkx3,HK⟩:=hrel;have HDZ:Hid (dj.size=N):=by have:=HK.out.2.1.1; have:=HNN.out; show _=_; omega
      have HDV:Hid (bs ∣ a2∧bs ∣ a2+bs):=by
       have h:bs ∣ a2:=Nat.dvd_trans ⟨2,by omega⟩ HK.out.1
       exact ⟨h,Nat.dvd_add h (Nat.dvd_refl _)⟩
      by_cases hl2:a2+2 * bs≤N
      ·have hl2z:((a2+2 * bs:Nat):Int)≤(N:Int):=by omega
       have hmz:IntKind.i64.wrap ((a2:Int)+(bs:Int))=((a2+bs:Nat):Int):=by rw[IntKind.wrap_i64]; omega
       have hnz:IntKind.i64.wrap (((a2+2 * bs:Nat):Int)+((2 * bs:Nat):Int))=((a2+2 * bs+2 * bs:Nat):Int):=by rw[IntKind.wrap_i64]; omega
       have HC:=Lib.hid (HM.out a2 (a2+bs) (a2+2 * bs) dj wr (by omega) (by omega) (by have:=HDZ.out; omega) (by have:=HDZ.out; have:=HNN.out; omega) HK.out.2.2.2.2 (BlkP.sorted HK.out.2.2.2.1 HDV.out.1 (Nat.le_refl _) (Nat.le_refl _) (by omega)) (BlkP.sorted HK.out.2.2.2.1 HDV.out.2 (by omega) (by omega) hl2))
       go_wp2_with (go_at_call 191; refine HC.out.mono ?_; rintro e w2 ⟨rfl,d2,p2,s2,S2⟩);go_roundg (N - (a2+2 * bs))
       case measure=>omega
       case rel =>
        refine ⟨a2+2 * bs,d2,by first | rfl | go_num,by go_num,hl2,Nat.le_refl _,⟨Nat.dvd_add HK.out.1 (Nat.dvd_refl _),permIn_trans _ _ _ _ _ HK.out.2.1 (permIn_mono _ _ _ _ _ _ (Nat.zero_le _) hl2 (by have:=HDZ.out; omega) p2),BlkP.snoc HK.out.2.2.1 HK.out.1 s2 p2,BlkP.rest HK.out.2.2.2.1 (by omega) p2,S2⟩⟩
      ·have hl2z:¬ ((a2+2 * bs:Nat):Int)≤(N:Int):=by omega
       have hmz:IntKind.i64.wrap ((a2:Int)+(bs:Int))=((a2+bs:Nat):Int):=by rw[IntKind.wrap_i64]; omega
       by_cases hl3:a2+bs<N
       ·have hl3z:((a2+bs:Nat):Int)<(N:Int):=by omega
        have HC:=Lib.hid (HM.out a2 (a2+bs) N dj wr (by omega) hl3 (by have:=HDZ.out; omega) (by have:=HDZ.out; have:=HNN.out; omega) HK.out.2.2.2.2 (BlkP.sorted HK.out.2.2.2.1 HDV.out.1 (Nat.le_refl _) (Nat.le_refl _) (by omega)) (BlkP.sorted HK.out.2.2.2.1 HDV.out.2 (by omega) (by omega) (Nat.le_refl _)))
        go_wp2_with (go_at_call 191; refine HC.out.mono ?_; rintro e w2 ⟨rfl,d2,p2,s2,S2⟩);go_roundg (N - 2 * bs)
        case measure=>omega
        case rel=>exact ⟨2 * bs,d2,by first | go_num | rfl,by omega,by omega,Nat.le_refl _,⟨permIn_trans _ _ _ _ _ HK.out.2.1 (permIn_mono _ _ _ _ _ _ (Nat.zero_le _) (Nat.le_refl _) (by have:=HDZ.out; omega) p2),BlkP.snoc HK.out.2.2.1 HK.out.1 s2 p2,S2⟩⟩
       ·have hl3z:¬ ((a2+bs:Nat):Int)<(N:Int):=by omega
        have HL:=Lib.hid (BlkP.sorted HK.out.2.2.2.1 HDV.out.1 (Nat.le_refl _) (by omega:N≤a2+bs) (Nat.le_refl _))
        go_wp2;go_roundg (N - 2 * bs)
        case measure=>omega
        case rel=>exact ⟨2 * bs,dj,by first | go_num | rfl,by omega,by omega,Nat.le_refl _,⟨HK.out.2.1,BlkP.snoc HK.out.2.2.1 HK.out.1 HL.out (permIn_refl _ _ _),HK.out.2.2.2.2⟩⟩
    ·have hlbz:¬ (bs:Int)<(N:Int):=by omega
     have HL:=Lib.hid (BlkP.sorted HK.out.2.1 (a:=0) ⟨0,by omega⟩ (Nat.le_refl _) (by omega:N≤0+bs) (Nat.le_refl _))
     go_wp2;go_end0;exact ⟨rfl,dk,HK.out.1,HL.out,HK.out.2.2⟩
section
attribute [-simp] Tryz.isAgg99 Tryz.sizeOf99 Tryz.typeInfo99
theorem Xdz [Inhabited Hld](k:Nat)(hk4:k=hdE.k)(g:Nat)(cb:Array Value)(blk off cap a b n:Nat)(d0 d:Array Hld)(w0 w:World)
  (R:RowK hdE.f k w0 blk off d0) (hs:d0.size=d.size) (S:SWK hdE.f k w0 blk off d w) (hab:a+n≤b) (hb:b+n≤d.size) (hsz:d.size<4611686018427387904) :
  Calls Tryz.prog 237 #[.slice (some ⟨blk,off,none⟩) d.size cap,.int .i64 a,.int .i64 b,.int .i64 n,.func (.func g) #[] cb] w fun e w' => e = .returned (.tuple #[])∧SWK hdE.f k w0 blk off (swpR d a b n) w':=by
 have aE:∀w,(isAgg 99).run Tryz.prog w = .ok true w:=Tryz.isAgg99;have zE:∀w,(Go.sizeOf 99).run Tryz.prog w = .ok k w:=by rw[hk4]; exact Tryz.sizeOf99
 clear hk4;have mixed:Tryz.prog.follows Departure.mixedOrders=true:=by kernel_rfl
 have S0:Aside (SWK hdE.f k w0 blk off d w):=S;clear S;go_enter Tryz.func237,Tryz.ntmps237;go_wp2;go_loopg [10] n (fun kx s10 wr => ∃(i:Nat),s10 = .int .i64 i∧i≤n∧n - i≤kx∧Aside (SWK hdE.f k w0 blk off (swpR d a b i) wr))
 case atStart=>exact ⟨0,rfl,Nat.zero_le _,Nat.le_refl _,S0⟩
 case round =>
  clear S0;obtain ⟨i,rfl,hin,hkx,S1⟩:=hrel;have hds:=Xba d a b i
  by_cases hlt:i<n
  ·have hltz:(i:Int)<(n:Int):=by omega
   have HSW:Aside (swpR d a b (i+1)=swp (swpR d a b i) (a+i) (b+i)):=rfl;generalize swpR d a b i=dk at S1 hds HSW;go_wp2_with fail;have wA:IntKind.i64.wrap ((a:Int)+(i:Int))=((a+i:Nat):Int):=by rw[IntKind.wrap_i64]; omega
   have wB:IntKind.i64.wrap ((b:Int)+(i:Int))=((b+i:Nat):Int):=by rw[IntKind.wrap_i64]; omega
   have ea44:(((a+i:Nat):Int)).toNat=a+i:=by omega
   have pa44:(0:Int)≤((a+i:Nat):Int):=by omega
   have ba44:((a+i:Nat):Int)<(d.size:Int):=by omega
   have ec44:(((b+i:Nat):Int)).toNat=b+i:=by omega
   have pc44:(0:Int)≤((b+i:Nat):Int):=by omega
   have bc44:((b+i:Nat):Int)<(d.size:Int):=by omega
   have S2:=S1.out.swapped R (a+i) (b+i) (by omega) (by omega)
   rw[←HSW.out] at S2;have S2:Aside _:=S2;have l44a:=S1.out.ld1 R (by omega) Tryz.prog (a+i) (by omega)
   have l44b:=S1.out.ld1 R (by omega) Tryz.prog (b+i) (by omega)
   have s44a:=S1.out.st1 R (by omega) Tryz.prog (a+i) (by omega) dk[b+i]!
   have s44b:=S1.out.st2 R (by omega) Tryz.prog (a+i) (b+i) (by omega) (by omega) dk[b+i]! dk[a+i]!
   have n44a:(hdE.f dk[a+i]!).length=k:=R.hk _;have n44b:(hdE.f dk[b+i]!).length=k:=R.hk _;generalize hdE.f dk[a+i]! = cI44 at S2 l44a s44b n44a;generalize hdE.f dk[b+i]! = cJ44 at S2 l44b s44a s44b n44b;clear S1;go_big_region_o;clear l44a l44b s44a s44b;generalize (wr.drew.setCells blk (off+(a+i) * k) cJ44).setCells blk (off+(b+i) * k) cI44=w2 at S2 ⊢;go_wp2;go_roundg (n - (i+1))
   case measure=>omega
   case rel=>exact ⟨i+1,by go_num,by omega,Nat.le_refl _,S2⟩
  ·have hltz:¬ (i:Int)<(n:Int):=by omega
   have e:i=n:=by omega
   subst e;go_wp2;go_end0;exact ⟨rfl,S1.out⟩
end
section
attribute [-simp] Tryz.isAgg99 Tryz.sizeOf99 Tryz.typeInfo99
theorem Xkx [Inhabited Hld](k:Nat)(hk4:k=hdE.k)(g:Nat)(cb:Array Value)(blk off cap a m b:Nat)(d0 d:Array Hld)(w0 w:World)
  (R:RowK hdE.f k w0 blk off d0) (hs:d0.size=d.size) (S:SWK hdE.f k w0 blk off d w) (ham:a<m) (hmb:m<b) (hb:b≤d.size) (hsz:d.size<4611686018427387904) :
  Calls Tryz.prog 235 #[.slice (some ⟨blk,off,none⟩) d.size cap,.int .i64 a,.int .i64 m,.int .i64 b,.func (.func g) #[] cb] w fun e w' => e = .returned (.tuple #[]) ∧ ∃d',Rot a m b d d' ∧ SWK hdE.f k w0 blk off d' w':=by
 have S0:Aside (SWK hdE.f k w0 blk off d w):=S;have HR:=Lib.hid R;clear S R;go_enter Tryz.func235,Tryz.ntmps235;go_wp2;go_loopg [10,11] (b - a) (fun kx s10 s11 wr => ∃(i j:Nat) (dk:Array Hld),s10 = .int .i64 i∧s11 = .int .i64 j∧0<i∧0<j∧i≤m∧m+j≤d.size∧i+j≤kx∧dk.size=d.size∧Aside (∀d',Rot (m - i) m (m+j) dk d' → Rot a m b d d')∧Aside (SWK hdE.f k w0 blk off dk wr))
 case atStart=>exact ⟨m - a,b - m,d,by go_num,by go_num,by omega,by omega,by omega,by omega,by omega,rfl,(fun d' h=>by rwa [show m - (m - a)=a by omega,show m+(b - m)=b by omega] at h),S0⟩
 case round =>
  clear S0;obtain ⟨i,j,dk,rfl,rfl,hi,hj,him,hmj,hkx,hds,HT,S1⟩:=hrel;have eA:IntKind.i64.wrap ((m:Int) - (i:Int))=((m - i:Nat):Int):=by rw[IntKind.wrap_i64]; omega
  by_cases hne:i=j
  ·subst hne;have hz:¬ (i:Int) ≠ (i:Int):=by simp
   have HC:=Lib.hid (Xdz k hk4 g cb blk off cap (m - i) m i d0 dk w0 wr HR.out (by omega) S1.out (by omega) (by omega) (by omega))
   rw[hds] at HC;have HL:=Lib.hid (HT.out _ (Rot.last (d:=dk) (a:=m - i) rfl him rfl (by omega)))
   clear HT S1;go_wp2_with (go_at_call 237; refine HC.out.mono ?_; rintro e w' ⟨rfl,S2⟩);go_end0;exact ⟨rfl,_,HL.out,S2⟩
  ·have hz:(i:Int) ≠ (j:Int):=by omega
   by_cases hlt:j<i
   ·have hltz:(j:Int)<(i:Int):=by omega
    have HC:=Lib.hid (Xdz k hk4 g cb blk off cap (m - i) m j d0 dk w0 wr HR.out (by omega) S1.out (by omega) (by omega) (by omega))
    rw[hds] at HC;have HL:Aside (∀d',Rot (m - (i - j)) m (m+j) (swpR dk (m - i) m j) d' → Rot a m b d d'):=fun d' h=>HT.out d' (Rot.stepL (a:=m - i) rfl him rfl hlt (by omega) h)
    clear HT S1;go_wp2_with (go_at_call 237; refine HC.out.mono ?_; rintro e w' ⟨rfl,S2⟩);go_roundg ((i - j)+j)
    case measure=>omega
    case rel=>exact ⟨i - j,j,_,by go_num,rfl,by omega,hj,by omega,hmj,Nat.le_refl _,by rw[Xba]; exact hds,HL,S2⟩
   ·have hltz:¬ (j:Int)<(i:Int):=by omega
    have eB:IntKind.i64.wrap ((m:Int)+(j:Int))=((m+j:Nat):Int):=by rw[IntKind.wrap_i64]; omega
    have eD:(m:Int)+(j:Int) - (i:Int)=((m+j - i:Nat):Int):=by omega
    have HC:=Lib.hid (Xdz k hk4 g cb blk off cap (m - i) (m+j - i) i d0 dk w0 wr HR.out (by omega) S1.out (by omega) (by omega) (by omega))
    rw[hds] at HC;have HL:Aside (∀d',Rot (m - i) m (m+(j - i)) (swpR dk (m - i) (m+j - i) i) d' → Rot a m b d d'):=fun d' h=>HT.out d' (Rot.stepR (a:=m - i) rfl him rfl (by omega) (by omega) h)
    clear HT S1;go_wp2_with (go_at_call 237; refine HC.out.mono ?_; rintro e w' ⟨rfl,S2⟩);go_roundg (i+(j - i))
    case measure=>omega
    case rel=>exact ⟨i,j - i,_,rfl,by go_num,hi,by omega,him,by omega,Nat.le_refl _,by rw[Xba]; exact hds,HL,S2⟩
end
section
attribute [-simp] Tryz.isAgg99 Tryz.sizeOf99 Tryz.typeInfo99
theorem Xm5 [Inhabited Hld](k:Nat)(hk4:k=hdE.k)(cf:Hld→Hld→Int)(hw:SWO (ltOf cf))(g:Nat)(cb:Array Value)(blk off cap:Nat)(d0:Array Hld)(w0:World)
  (eg:∀args w,(callFunc g args).run Tryz.prog w = .ok (.enter g args) w) (hC:CmpLays Tryz.prog g cb hdE.f k cf blk off d0.size w0) (R:RowK hdE.f k w0 blk off d0) (hsz:d0.size<4611686018427387904) :
  ∀(N a m b:Nat) (d:Array Hld) (w:World),b - a≤N→a<m→m<b→b≤d.size→d.size=d0.size→SWK hdE.f k w0 blk off d w→SortedIn (ltOf cf) a m d→SortedIn (ltOf cf) m b d →
  Calls Tryz.prog 226 #[.slice (some ⟨blk,off,none⟩) d0.size cap,.int .i64 a,.int .i64 m,.int .i64 b,.func (.func g) #[] cb] w fun e w' => e = .returned (.tuple #[])∧StT3 hdE.f k (ltOf cf) w0 blk off a b d w':=by
 intro N
 induction N with
 | zero=>intro a m b d w h1 h2 h3; omega
 | succ N ih =>
 intro a m b d w hN ham hmb hb hs S h1 h2;have aE:∀w,(isAgg 99).run Tryz.prog w = .ok true w:=Tryz.isAgg99;have zE:∀w,(Go.sizeOf 99).run Tryz.prog w = .ok k w:=by rw[hk4]; exact Tryz.sizeOf99
 have HK4:=Lib.hid hk4;clear hk4;have mixed:Tryz.prog.follows Departure.mixedOrders=true:=by kernel_rfl
 have HS:Aside (SWK hdE.f k w0 blk off d w):=S;have H1:=Lib.hid h1;have H2:=Lib.hid h2;have HIH:=Lib.hid ih;have HCM:=Lib.hid hC;have HW:=Lib.hid hw;clear S h1 h2 ih hC hw
 by_cases hm1:m=a+1
 ·have z1:(m:Int) - (a:Int)=1:=by omega
  have HM1:=Lib.hid hm1;clear hm1;go_enter Tryz.func226,Tryz.ntmps226;go_wp2;go_loopg [10,11] (b - m) (fun kx sa sb wr => ∃(i j:Nat),sa = .int .i64 i∧sb = .int .i64 j∧j - i≤kx∧Aside (Cut (fun c=>ltOf cf d[c]! d[a]!) m b i j)∧Aside (SWK hdE.f k w0 blk off d wr))
  case atStart=>exact ⟨m,b,by first | rfl | go_num,by first | rfl | go_num,Nat.le_refl _,Cut.start _ (by omega),HS⟩
  case round =>
   obtain ⟨i,j,rfl,rfl,hkx,C,S1⟩:=hrel;have c1:=C.out.li; have c2:=C.out.ij; have c3:=C.out.jh
   by_cases hlt:i<j
   ·have hltz:(i:Int)<(j:Int):=by omega
    obtain ⟨h,hh⟩:∃h:Nat,h=(i+j) / 2:=⟨_,rfl⟩;have hmm:((i:Int)+(j:Int)) / 2=(h:Int):=by omega
    have hh1:i≤h:=by omega
    have hh2:h<j:=by omega
    clear hh
    skip
    have p0:(0:Int)≤((h:Nat):Int):=by omega
    have p1:(((h:Nat):Int)).toNat=h:=by omega
    have p2:((h:Nat):Int)<(d0.size:Int):=by omega
    have p3:(0:Int)≤((a:Nat):Int):=by omega
    have p4:(((a:Nat):Int)).toNat=a:=by omega
    have p5:((a:Nat):Int)<(d0.size:Int):=by omega
    obtain ⟨x,hx⟩:∃x,d[h]! = x:=⟨_,rfl⟩;obtain ⟨y,hy⟩:∃y,d[a]! = y:=⟨_,rfl⟩;have lj:∀n' os',Sem.run Tryz.prog (loadCellsFrom ⟨blk,off+(h) * k,none⟩ 0 k #[]) (grow (wr.drewN n') os') = .ok (hdE.f x).toArray (grow (wr.drewN n') os'):=fun n' os' => by rw[←hx]; exact S1.out.ld R hs Tryz.prog (h) (by omega) n' os'
    have lp:∀n' os',Sem.run Tryz.prog (loadCellsFrom ⟨blk,off+(a) * k,none⟩ 0 k #[]) (grow (wr.drewN n') os') = .ok (hdE.f y).toArray (grow (wr.drewN n') os'):=fun n' os' => by rw[←hy]; exact S1.out.ld R hs Tryz.prog (a) (by omega) n' os'
    have hcg:∀n' os',Calls Tryz.prog g (#[.agg (hdE.f x).toArray,.agg (hdE.f y).toArray] ++ cb) (grow (wr.drewN n') os') fun e w' => e = .returned (.int .i64 (cf x y)) ∧ ∃q os'',w' = grow ((grow (wr.drewN n') os').drewN q) os'':=fun n' os' => S1.out.cmp HCM.out hs x y n' os';have S2:Aside (∀n os,SWK hdE.f k w0 blk off d (grow (wr.drewN n) os)):=fun n os=>S1.out.grown n os;have HM:Aside (Mono (fun c=>ltOf cf d[c]! d[a]!) m b):=mono1 HW.out _ H2.out;have HXY:Aside (d[h]! = x∧d[a]! = y):=⟨hx,hy⟩;clear hx hy S1
    by_cases hlv:cf x y<0
    ·have hlb:decide (cf x y<0)=true:=by simpa using hlv
     go_wp2_with fail;go_quiet_grown (first | (go_at_fn g; refine Calls.grown_of (hcg _ _)))
     go_wp2;go_roundg (j - (h+1))
     case measure=>omega
     case rel=>exact ⟨h+1,j,by go_num,rfl,Nat.le_refl _,C.out.right HM.out hh1 hh2 (by simp only[HXY.out.1,HXY.out.2,ltOf]; simp[hlv]),S2.out _ _⟩
    ·have hlb:decide (cf x y<0)=false:=by simpa using hlv
     go_wp2_with fail;go_quiet_grown (first | (go_at_fn g; refine Calls.grown_of (hcg _ _)))
     go_wp2;go_roundg (h - i)
     case measure=>omega
     case rel=>exact ⟨i,h,rfl,rfl,Nat.le_refl _,C.out.left HM.out hh1 hh2 (by simp only[HXY.out.1,HXY.out.2,ltOf]; simp[hlv]),S2.out _ _⟩
   ·have hltz:¬ (i:Int)<(j:Int):=by omega
    obtain rfl:i=j:=by omega
    clear HS hltz hlt hkx c2;have CC:Aside (Cut (fun c=>ltOf cf d[c]! d[a]!) m b i i):=C.out;clear C;go_wp2;go_loopg [13] (i - 1 - a) (fun kx sk wr => ∃(kk:Nat) (dk:Array Hld),sk = .int .i64 kk∧a≤kk∧kk+1≤i∧i - 1 - kk≤kx∧dk.size=d.size∧Aside (Rot a (a+1) (kk+1) d dk)∧Aside (SWK hdE.f k w0 blk off dk wr))
    case atStart=>exact ⟨a,d,rfl,Nat.le_refl _,by omega,Nat.le_refl _,rfl,Rot.none a (a+1) d (a+1) (Or.inr rfl) (by omega) (by omega),S1⟩
    case round =>
     clear S1;obtain ⟨kk,dk,rfl,k1,k2,hkx,hds,HT,S1⟩:=hrel
     by_cases hlt:kk+1<i
     ·have hltz:(kk:Int)<(i:Int) - 1:=by omega
      have eK:IntKind.i64.wrap ((kk:Int)+1)=((kk+1:Nat):Int):=by rw[IntKind.wrap_i64]; omega
      have HTN:=Lib.hid (HT.out.up k1 (by omega))
      have hdz:(swp dk kk (kk+1)).size=d.size:=by rw[size_swp]; exact hds
      clear HT;have pA:(0:Int)≤((kk:Nat):Int):=by omega
      have pB:(((kk:Nat):Int)).toNat=kk:=by omega
      have pC:((kk:Nat):Int)<(d0.size:Int):=by omega
      have pD:(0:Int)≤((kk+1:Nat):Int):=by omega
      have pE:(((kk+1:Nat):Int)).toNat=kk+1:=by omega
      have pF:((kk+1:Nat):Int)<(d0.size:Int):=by omega
      have S2:=S1.out.swapped R (kk) (kk+1) (by omega) (by omega)
      have S2:Aside _:=S2;have l44a:=S1.out.ld1 R (by omega) Tryz.prog (kk) (by omega)
      have l44b:=S1.out.ld1 R (by omega) Tryz.prog (kk+1) (by omega)
      have s44a:=S1.out.st1 R (by omega) Tryz.prog (kk) (by omega) dk[kk+1]!
      have s44b:=S1.out.st2 R (by omega) Tryz.prog (kk) (kk+1) (by omega) (by omega) dk[kk+1]! dk[kk]!
      have n44a:(hdE.f dk[kk]!).length=k:=R.hk _;have n44b:(hdE.f dk[kk+1]!).length=k:=R.hk _;generalize hdE.f dk[kk]! = cI44 at S2 l44a s44b n44a;generalize hdE.f dk[kk+1]! = cJ44 at S2 l44b s44a s44b n44b;clear S1;go_wp2_with fail;go_big_region_o;clear l44a l44b s44a s44b;generalize (wr.drew.setCells blk (off+(kk) * k) cJ44).setCells blk (off+(kk+1) * k) cI44=w2 at S2 ⊢;go_wp2;go_roundg (i - 1 - (kk+1))
      case measure=>omega
      case rel=>exact ⟨kk+1,_,by go_num,by omega,by omega,Nat.le_refl _,hdz,HTN,S2⟩
     ·have hltz:¬ (kk:Int)<(i:Int) - 1:=by omega
      obtain rfl:i=kk+1:=by omega
      have hM:=Xst HW.out (a:=a) (b:=b) (i:=kk+1) (by have:=H2.out; rwa [HM1.out] at this) (by have:=CC.out; rwa [HM1.out] at this) HT.out hb
      have HMM:=Lib.hid hM;clear hM;go_wp2
      first | go_end0 | (refine bodyPost_ret (results_none rfl _ _ _) rfl ?_)
      exact ⟨rfl,dk,HMM.out.1,HMM.out.2,S1.out⟩
 by_cases hb1:b=m+1
 ·have z1:((m:Int) - (a:Int) == 1)=false:=by rw[beq_eq_false_iff_ne]; omega
  have z2:(b:Int) - (m:Int)=1:=by omega
  have HB1:=Lib.hid hb1;clear hb1 hm1;go_enter Tryz.func226,Tryz.ntmps226;go_wp2;go_loopg [14,15] (m - a) (fun kx sa sb wr => ∃(i j:Nat),sa = .int .i64 i∧sb = .int .i64 j∧j - i≤kx∧Aside (Cut (fun c => !ltOf cf d[m]! d[c]!) a m i j)∧Aside (SWK hdE.f k w0 blk off d wr))
  case atStart=>exact ⟨a,m,by first | rfl | go_num,by first | rfl | go_num,Nat.le_refl _,Cut.start _ (by omega),HS⟩
  case round =>
   obtain ⟨i,j,rfl,rfl,hkx,C,S1⟩:=hrel;have c1:=C.out.li; have c2:=C.out.ij; have c3:=C.out.jh
   by_cases hlt:i<j
   ·have hltz:(i:Int)<(j:Int):=by omega
    obtain ⟨h,hh⟩:∃h:Nat,h=(i+j) / 2:=⟨_,rfl⟩;have hmm:((i:Int)+(j:Int)) / 2=(h:Int):=by omega
    have hh1:i≤h:=by omega
    have hh2:h<j:=by omega
    clear hh
    skip
    have p0:(0:Int)≤((m:Nat):Int):=by omega
    have p1:(((m:Nat):Int)).toNat=m:=by omega
    have p2:((m:Nat):Int)<(d0.size:Int):=by omega
    have p3:(0:Int)≤((h:Nat):Int):=by omega
    have p4:(((h:Nat):Int)).toNat=h:=by omega
    have p5:((h:Nat):Int)<(d0.size:Int):=by omega
    obtain ⟨x,hx⟩:∃x,d[m]! = x:=⟨_,rfl⟩;obtain ⟨y,hy⟩:∃y,d[h]! = y:=⟨_,rfl⟩;have lj:∀n' os',Sem.run Tryz.prog (loadCellsFrom ⟨blk,off+(m) * k,none⟩ 0 k #[]) (grow (wr.drewN n') os') = .ok (hdE.f x).toArray (grow (wr.drewN n') os'):=fun n' os' => by rw[←hx]; exact S1.out.ld R hs Tryz.prog (m) (by omega) n' os'
    have lp:∀n' os',Sem.run Tryz.prog (loadCellsFrom ⟨blk,off+(h) * k,none⟩ 0 k #[]) (grow (wr.drewN n') os') = .ok (hdE.f y).toArray (grow (wr.drewN n') os'):=fun n' os' => by rw[←hy]; exact S1.out.ld R hs Tryz.prog (h) (by omega) n' os'
    have hcg:∀n' os',Calls Tryz.prog g (#[.agg (hdE.f x).toArray,.agg (hdE.f y).toArray] ++ cb) (grow (wr.drewN n') os') fun e w' => e = .returned (.int .i64 (cf x y)) ∧ ∃q os'',w' = grow ((grow (wr.drewN n') os').drewN q) os'':=fun n' os' => S1.out.cmp HCM.out hs x y n' os';have S2:Aside (∀n os,SWK hdE.f k w0 blk off d (grow (wr.drewN n) os)):=fun n os=>S1.out.grown n os;have HM:Aside (Mono (fun c => !ltOf cf d[m]! d[c]!) a m):=mono2 HW.out _ H1.out;have HXY:Aside (d[m]! = x∧d[h]! = y):=⟨hx,hy⟩;clear hx hy S1
    by_cases hlv:cf x y<0
    ·have hlb:decide (cf x y<0)=true:=by simpa using hlv
     go_wp2_with fail;go_quiet_grown (first | (go_at_fn g; refine Calls.grown_of (hcg _ _)))
     go_wp2;go_roundg (h - i)
     case measure=>omega
     case rel=>exact ⟨i,h,rfl,rfl,Nat.le_refl _,C.out.left HM.out hh1 hh2 (by simp only[HXY.out.1,HXY.out.2,ltOf]; simp[hlv]),S2.out _ _⟩
    ·have hlb:decide (cf x y<0)=false:=by simpa using hlv
     go_wp2_with fail;go_quiet_grown (first | (go_at_fn g; refine Calls.grown_of (hcg _ _)))
     go_wp2;go_roundg (j - (h+1))
     case measure=>omega
     case rel=>exact ⟨h+1,j,by go_num,rfl,Nat.le_refl _,C.out.right HM.out hh1 hh2 (by simp only[HXY.out.1,HXY.out.2,ltOf]; simp[hlv]),S2.out _ _⟩
   ·have hltz:¬ (i:Int)<(j:Int):=by omega
    obtain rfl:i=j:=by omega
    clear HS hltz hlt hkx c2;have CC:Aside (Cut (fun c => !ltOf cf d[m]! d[c]!) a m i i):=C.out;clear C;go_wp2;go_loopg [17] (m - i) (fun kx sk wr => ∃(kk:Nat) (dk:Array Hld),sk = .int .i64 kk∧i≤kk∧kk≤m∧kk - i≤kx∧dk.size=d.size∧Aside (Rot kk m (m+1) d dk)∧Aside (SWK hdE.f k w0 blk off dk wr))
    case atStart=>exact ⟨m,d,rfl,c3,Nat.le_refl _,Nat.le_refl _,rfl,Rot.none m (m+1) d m (Or.inl rfl) (by omega) (by omega),S1⟩
    case round =>
     clear S1;obtain ⟨kk0,dk,rfl,k1,k2,hkx,hds,HT,S1⟩:=hrel
     by_cases hlt:i<kk0
     ·obtain ⟨kk,rfl⟩:∃kk,kk0=kk+1:=⟨kk0 - 1,by omega⟩
      have hltz:(i:Int)<((kk+1:Nat):Int):=by omega
      have eK:IntKind.i64.wrap (((kk+1:Nat):Int) - 1)=(kk:Int):=by rw[IntKind.wrap_i64]; omega
      have HTN:=Lib.hid (HT.out.down k2 (by omega))
      have hdz:(swp dk (kk+1) kk).size=d.size:=by rw[size_swp]; exact hds
      clear HT;generalize hkn:kk+1=kn at *;have hk3:kn≤m∧kk<kn∧kk ≠ kn∧kn ≠ kk:=by omega
      have hkn':=Lib.hid hkn;clear hkn;have pA:(0:Int)≤((kn:Nat):Int):=by omega
      have pB:(((kn:Nat):Int)).toNat=kn:=by omega
      have pC:((kn:Nat):Int)<(d0.size:Int):=by omega
      have pD:(0:Int)≤((kk:Nat):Int):=by omega
      have pE:(((kk:Nat):Int)).toNat=kk:=by omega
      have pF:((kk:Nat):Int)<(d0.size:Int):=by omega
      have S2:=S1.out.swapped R (kn) (kk) (by omega) (by omega)
      have S2:Aside _:=S2;have l44a:=S1.out.ld1 R (by omega) Tryz.prog (kn) (by omega)
      have l44b:=S1.out.ld1 R (by omega) Tryz.prog (kk) (by omega)
      have s44a:=S1.out.st1 R (by omega) Tryz.prog (kn) (by omega) dk[kk]!
      have s44b:=S1.out.st2 R (by omega) Tryz.prog (kn) (kk) (by omega) (by omega) dk[kk]! dk[kn]!
      have n44a:(hdE.f dk[kn]!).length=k:=R.hk _;have n44b:(hdE.f dk[kk]!).length=k:=R.hk _;generalize hdE.f dk[kn]! = cI44 at S2 l44a s44b n44a;generalize hdE.f dk[kk]! = cJ44 at S2 l44b s44a s44b n44b;clear S1;go_wp2_with fail;go_big_region_o;clear l44a l44b s44a s44b;generalize (wr.drew.setCells blk (off+(kn) * k) cJ44).setCells blk (off+(kk) * k) cI44=w2 at S2 ⊢;go_wp2;go_roundg (kk - i)
      case measure=>have:=hkn'.out; omega
      case rel=>exact ⟨kk,_,by first | rfl | go_num,by have:=hkn'.out; omega,by have:=hkn'.out; omega,Nat.le_refl _,hdz,HTN,S2⟩
     ·have hltz:¬ (i:Int)<(kk0:Int):=by omega
      obtain rfl:i=kk0:=by omega
      have hM:=Xss HW.out (a:=a) (m:=m) (i:=i) H1.out CC.out HT.out (by omega)
      have HMM:=Lib.hid hM;clear hM;go_wp2
      first | go_end0 | (refine bodyPost_ret (results_none rfl _ _ _) rfl ?_)
      rw[HB1.out];exact ⟨rfl,dk,HMM.out.1,HMM.out.2,S1.out⟩
 have z1:((m:Int) - (a:Int) == 1)=false:=by rw[beq_eq_false_iff_ne]; omega
 have z2:((b:Int) - (m:Int) == 1)=false:=by rw[beq_eq_false_iff_ne]; omega
 clear hm1 hb1;obtain ⟨mid,hmid⟩:∃mid:Nat,mid=(a+b) / 2:=⟨_,rfl⟩;have hmd:((a:Int)+(b:Int)) / 2=(mid:Int):=by omega
 have HMID:=Lib.hid hmid;obtain ⟨n,hn⟩:∃n:Nat,n=mid+m:=⟨_,rfl⟩;have hnn:(mid:Int)+(m:Int)=(n:Int):=by omega
 obtain ⟨p,hp⟩:∃p:Nat,p=n - 1:=⟨_,rfl⟩;have hpp:(n:Int) - 1=(p:Int):=by omega
 have HN2:Hid (n=mid+m∧p=mid+m - 1):=⟨hn,by omega⟩
 have am:a<mid∧mid<b:=by omega
 by_cases hmm1:mid<m
 ·have zm:(mid:Int)<(m:Int):=by omega
  obtain ⟨lo,hlo⟩:∃lo:Nat,lo=n - b:=⟨_,rfl⟩;have hll:(n:Int) - (b:Int)=(lo:Int):=by omega
  have HLO:Hid (lo=if mid<m then mid+m - b else a):=by show lo=_; rw[if_pos hmm1]; omega
  have HHI:Hid (mid=if mid<m then mid else m):=by show mid=_; rw[if_pos hmm1]
  have lb1:a≤lo∧lo≤mid∧mid≤m∧p - lo<b∧m≤p - (mid - 1)∧mid≤p+1:=by omega
  clear hmid hn hp hlo hmm1;go_enter Tryz.func226,Tryz.ntmps226;go_wp2;go_loopg [20,21] (mid - lo) (fun kx sa sb wr => ∃(i j:Nat),sa = .int .i64 i∧sb = .int .i64 j∧j - i≤kx∧Aside (Cut (fun c => !ltOf cf d[p - c]! d[c]!) lo mid i j)∧Aside (SWK hdE.f k w0 blk off d wr))
  case atStart=>exact ⟨lo,mid,by first | rfl | go_num,by first | rfl | go_num,Nat.le_refl _,Cut.start _ (by omega),HS⟩
  case round =>
   obtain ⟨i,j,rfl,rfl,hkx,C,S1⟩:=hrel;have c1:=C.out.li; have c2:=C.out.ij; have c3:=C.out.jh
   by_cases hlt:i<j
   ·have hltz:(i:Int)<(j:Int):=by omega
    obtain ⟨h,hh⟩:∃h:Nat,h=(i+j) / 2:=⟨_,rfl⟩;have hmm:((i:Int)+(j:Int)) / 2=(h:Int):=by omega
    have hh1:i≤h:=by omega
    have hh2:h<j:=by omega
    clear hh;have hpc:IntKind.i64.wrap ((p:Int) - (h:Int))=((p - h:Nat):Int):=by rw[IntKind.wrap_i64]; omega
    have p0:(0:Int)≤((p - h:Nat):Int):=by omega
    have p1:(((p - h:Nat):Int)).toNat=p - h:=by omega
    have p2:((p - h:Nat):Int)<(d0.size:Int):=by omega
    have p3:(0:Int)≤((h:Nat):Int):=by omega
    have p4:(((h:Nat):Int)).toNat=h:=by omega
    have p5:((h:Nat):Int)<(d0.size:Int):=by omega
    obtain ⟨x,hx⟩:∃x,d[p - h]! = x:=⟨_,rfl⟩;obtain ⟨y,hy⟩:∃y,d[h]! = y:=⟨_,rfl⟩;have lj:∀n' os',Sem.run Tryz.prog (loadCellsFrom ⟨blk,off+(p - h) * k,none⟩ 0 k #[]) (grow (wr.drewN n') os') = .ok (hdE.f x).toArray (grow (wr.drewN n') os'):=fun n' os' => by rw[←hx]; exact S1.out.ld R hs Tryz.prog (p - h) (by omega) n' os'
    have lp:∀n' os',Sem.run Tryz.prog (loadCellsFrom ⟨blk,off+(h) * k,none⟩ 0 k #[]) (grow (wr.drewN n') os') = .ok (hdE.f y).toArray (grow (wr.drewN n') os'):=fun n' os' => by rw[←hy]; exact S1.out.ld R hs Tryz.prog (h) (by omega) n' os'
    have hcg:∀n' os',Calls Tryz.prog g (#[.agg (hdE.f x).toArray,.agg (hdE.f y).toArray] ++ cb) (grow (wr.drewN n') os') fun e w' => e = .returned (.int .i64 (cf x y)) ∧ ∃q os'',w' = grow ((grow (wr.drewN n') os').drewN q) os'':=fun n' os' => S1.out.cmp HCM.out hs x y n' os';have S2:Aside (∀n os,SWK hdE.f k w0 blk off d (grow (wr.drewN n) os)):=fun n os=>S1.out.grown n os;have HM:Aside (Mono (fun c => !ltOf cf d[p - c]! d[c]!) lo mid):=Xrr HW.out H1.out H2.out lb1.1 lb1.2.2.1 lb1.2.2.2.1 lb1.2.2.2.2.1 lb1.2.2.2.2.2;have HXY:Aside (d[p - h]! = x∧d[h]! = y):=⟨hx,hy⟩;clear hx hy S1
    by_cases hlv:cf x y<0
    ·have hlb:decide (cf x y<0)=true:=by simpa using hlv
     go_wp2_with fail;go_quiet_grown (first | (go_at_fn g; refine Calls.grown_of (hcg _ _)))
     go_wp2;go_roundg (h - i)
     case measure=>omega
     case rel=>exact ⟨i,h,rfl,rfl,Nat.le_refl _,C.out.left HM.out hh1 hh2 (by simp only[HXY.out.1,HXY.out.2,ltOf]; simp[hlv]),S2.out _ _⟩
    ·have hlb:decide (cf x y<0)=false:=by simpa using hlv
     go_wp2_with fail;go_quiet_grown (first | (go_at_fn g; refine Calls.grown_of (hcg _ _)))
     go_wp2;go_roundg (j - (h+1))
     case measure=>omega
     case rel=>exact ⟨h+1,j,by go_num,rfl,Nat.le_refl _,C.out.right HM.out hh1 hh2 (by simp only[HXY.out.1,HXY.out.2,ltOf]; simp[hlv]),S2.out _ _⟩
   ·have hltz:¬ (i:Int)<(j:Int):=by omega
    obtain rfl:i=j:=by omega
    clear HS hltz hlt hkx c2;have C2:=C.out;rw[HN2.out.2] at C2;have e0:i≤n:=by have:=HN2.out; omega
    obtain ⟨e,he⟩:∃e:Nat,e=n - i:=⟨_,rfl⟩;have hee:(n:Int) - (i:Int)=(e:Int):=by omega
    have hem:mid+m - i=e:=by have:=HN2.out; omega
    have HH:=fun d' (h:Rot i m e d d')=>halves HW.out H1.out H2.out HMID.out ham hmb HLO.out HHI.out C2 (by rw[hem]; exact h) hb
    rw[hem] at HH;have e1:a≤i∧i≤mid∧i≤m∧mid≤e∧m≤e∧e≤b:=by have:=HN2.out; have:=HLO.out; have:=HHI.out; have:=HMID.out; omega
    have HT1:Aside (∀d' w',Rot i m e d d' → SWK hdE.f k w0 blk off d' w' → StT1 hdE.f k (ltOf cf) w0 blk off a b i mid e d w'):=fun d' w' hr hS=>⟨d',(HH d' hr).2.2.2.2.2.2.1,(HH d' hr).2.2.2.2.2.2.2,hS⟩;have HROT:Aside (i<m→m<e→Calls Tryz.prog 235 #[.slice (some ⟨blk,off,none⟩) d0.size cap,.int .i64 i,.int .i64 m,.int .i64 e,.func (.func g) #[] cb] wr fun ee w' => ee = .returned (.tuple #[])∧StT1 hdE.f k (ltOf cf) w0 blk off a b i mid e d w'):=fun r1 r2=>by
     have h:=Xkx k HK4.out g cb blk off cap i m e d0 d w0 wr R hs.symm S1.out r1 r2 (by omega) (by omega)
     rw[hs] at h;refine h.mono ?_;rintro ee w' ⟨rfl,d',hr,hS⟩;exact ⟨rfl,HT1.out d' w' hr hS⟩
    have HN1:Aside (¬ (i<m∧m<e)→StT1 hdE.f k (ltOf cf) w0 blk off a b i mid e d wr):=fun hno=>HT1.out d wr (Rot.none i e d m (by omega) (by omega) (by omega)) S1.out
    have HLEFT:Aside (a<i→i<mid → ∀w,StT1 hdE.f k (ltOf cf) w0 blk off a b i mid e d w→Calls Tryz.prog 226 #[.slice (some ⟨blk,off,none⟩) d0.size cap,.int .i64 a,.int .i64 i,.int .i64 mid,.func (.func g) #[] cb] w fun ee w' => ee = .returned (.tuple #[])∧StT2 hdE.f k (ltOf cf) w0 blk off a b i mid e d w'):=fun r1 r2 w ⟨d1,p1,H,S⟩=>by
     have z1:d1.size=d.size:=p1.1;refine (HIH.out a i mid d1 w (by omega) r1 r2 (by omega) (by omega) S H.as H.sm).mono ?_
     rintro ee w' ⟨rfl,d2,p2,s2,S2⟩;exact ⟨rfl,d1,d2,p1,H,p2,s2,S2⟩
    have HN2':Aside (¬ (a<i∧i<mid) → ∀w,StT1 hdE.f k (ltOf cf) w0 blk off a b i mid e d w→StT2 hdE.f k (ltOf cf) w0 blk off a b i mid e d w):=fun hno w t=>StT1.skip e1.1 hno t;have HRIGHT:Aside (mid<e→e<b → ∀w,StT2 hdE.f k (ltOf cf) w0 blk off a b i mid e d w→Calls Tryz.prog 226 #[.slice (some ⟨blk,off,none⟩) d0.size cap,.int .i64 mid,.int .i64 e,.int .i64 b,.func (.func g) #[] cb] w fun ee w' => ee = .returned (.tuple #[])∧StT3 hdE.f k (ltOf cf) w0 blk off a b d w'):=fun r1 r2 w t=>by
     have t0:=t;obtain ⟨d1,d2,p1,H,p2,s2,S⟩:=t0;have z1:d1.size=d.size:=p1.1;have z2:d2.size=d1.size:=p2.1;have hsame:∀t,mid≤t→t<b→d2[t]! = d1[t]! := fun t h1 _=>p2.2.1 t (Or.inr h1);refine (HIH.out mid e b d2 w (by omega) r1 r2 (by omega) (by omega) S (SortedIn.same H.me fun t h1 h2=>hsame t h1 (by omega)) (SortedIn.same H.eb fun t h1 h2=>hsame t (by omega) h2)).mono ?_
     rintro ee w' ⟨rfl,d3,p3,s3,S3⟩;have hd:=Xc6 H e1.1 e1.2.1 e1.2.2.2.1 e1.2.2.2.2.2 (by omega) p2 s2 p3 s3
     exact ⟨rfl,d3,permIn_trans _ _ _ _ _ p1 hd.1,hd.2,S3⟩
    have HN3:Aside (¬ (mid<e∧e<b) → ∀w,StT2 hdE.f k (ltOf cf) w0 blk off a b i mid e d w→StT3 hdE.f k (ltOf cf) w0 blk off a b d w):=fun hno w t=>StT2.skip e1.1 e1.2.1 e1.2.2.2.1 e1.2.2.2.2.2 hb hno t;have HEM:=Lib.hid hem;have HE1:=Lib.hid e1;clear HH HT1 S1 C C2 he hem e1 c1 c3
    by_cases x1:(i:Int)<(m:Int) <;> by_cases x2:(m:Int)<(e:Int) <;> by_cases x3:(a:Int)<(i:Int) <;> by_cases x4:(i:Int)<(mid:Int) <;> by_cases x5:(mid:Int)<(e:Int) <;> by_cases x6:(e:Int)<(b:Int)
    all_goals first
     | (exfalso; have:=HEM.out; have:=HE1.out; omega)
     | (go_wp2_with (first
         | (go_at_call 235
            with_reducible refine (HROT.out (by omega) (by omega)).mono ?_
            rintro ee wa ⟨rfl,t1⟩;have t1:Aside (StT1 hdE.f k (ltOf cf) w0 blk off a b i mid e d wa):=t1)
         | (go_at_call 226
            with_reducible refine (HLEFT.out (by omega) (by omega) _ (by first | exact t1.out | exact HN1.out (by omega))).mono ?_
            rintro ee wb ⟨rfl,t2⟩;have t2:Aside (StT2 hdE.f k (ltOf cf) w0 blk off a b i mid e d wb):=t2)
         | (go_at_call 226
            with_reducible refine (HRIGHT.out (by omega) (by omega) _ (by first | exact t2.out | exact HN2'.out (by omega) _ t1.out | exact HN2'.out (by omega) _ (HN1.out (by omega)))).mono ?_
            rintro ee wc ⟨rfl,t3⟩;have t3:Aside (StT3 hdE.f k (ltOf cf) w0 blk off a b d wc):=t3))
        go_end0;exact ⟨rfl,by first | exact t3.out | exact HN3.out (by omega) _ t2.out | exact HN3.out (by omega) _ (HN2'.out (by omega) _ t1.out) | exact HN3.out (by omega) _ (HN2'.out (by omega) _ (HN1.out (by omega)))⟩)
 ·have zm:¬ (mid:Int)<(m:Int):=by omega
  have HLO:Hid (a=if mid<m then mid+m - b else a):=by show a=_; rw[if_neg hmm1]
  have HHI:Hid (m=if mid<m then mid else m):=by show m=_; rw[if_neg hmm1]
  have lb1:a≤a∧a≤m∧m≤m∧p - a<b∧m≤p - (m - 1)∧m≤p+1:=by omega
  clear hmid hn hp hmm1;go_enter Tryz.func226,Tryz.ntmps226;go_wp2;go_loopg [20,21] (m - a) (fun kx sa sb wr => ∃(i j:Nat),sa = .int .i64 i∧sb = .int .i64 j∧j - i≤kx∧Aside (Cut (fun c => !ltOf cf d[p - c]! d[c]!) a m i j)∧Aside (SWK hdE.f k w0 blk off d wr))
  case atStart=>exact ⟨a,m,by first | rfl | go_num,by first | rfl | go_num,Nat.le_refl _,Cut.start _ (by omega),HS⟩
  case round =>
   obtain ⟨i,j,rfl,rfl,hkx,C,S1⟩:=hrel;have c1:=C.out.li; have c2:=C.out.ij; have c3:=C.out.jh
   by_cases hlt:i<j
   ·have hltz:(i:Int)<(j:Int):=by omega
    obtain ⟨h,hh⟩:∃h:Nat,h=(i+j) / 2:=⟨_,rfl⟩;have hmm:((i:Int)+(j:Int)) / 2=(h:Int):=by omega
    have hh1:i≤h:=by omega
    have hh2:h<j:=by omega
    clear hh;have hpc:IntKind.i64.wrap ((p:Int) - (h:Int))=((p - h:Nat):Int):=by rw[IntKind.wrap_i64]; omega
    have p0:(0:Int)≤((p - h:Nat):Int):=by omega
    have p1:(((p - h:Nat):Int)).toNat=p - h:=by omega
    have p2:((p - h:Nat):Int)<(d0.size:Int):=by omega
    have p3:(0:Int)≤((h:Nat):Int):=by omega
    have p4:(((h:Nat):Int)).toNat=h:=by omega
    have p5:((h:Nat):Int)<(d0.size:Int):=by omega
    obtain ⟨x,hx⟩:∃x,d[p - h]! = x:=⟨_,rfl⟩;obtain ⟨y,hy⟩:∃y,d[h]! = y:=⟨_,rfl⟩;have lj:∀n' os',Sem.run Tryz.prog (loadCellsFrom ⟨blk,off+(p - h) * k,none⟩ 0 k #[]) (grow (wr.drewN n') os') = .ok (hdE.f x).toArray (grow (wr.drewN n') os'):=fun n' os' => by rw[←hx]; exact S1.out.ld R hs Tryz.prog (p - h) (by omega) n' os'
    have lp:∀n' os',Sem.run Tryz.prog (loadCellsFrom ⟨blk,off+(h) * k,none⟩ 0 k #[]) (grow (wr.drewN n') os') = .ok (hdE.f y).toArray (grow (wr.drewN n') os'):=fun n' os' => by rw[←hy]; exact S1.out.ld R hs Tryz.prog (h) (by omega) n' os'
    have hcg:∀n' os',Calls Tryz.prog g (#[.agg (hdE.f x).toArray,.agg (hdE.f y).toArray] ++ cb) (grow (wr.drewN n') os') fun e w' => e = .returned (.int .i64 (cf x y)) ∧ ∃q os'',w' = grow ((grow (wr.drewN n') os').drewN q) os'':=fun n' os' => S1.out.cmp HCM.out hs x y n' os';have S2:Aside (∀n os,SWK hdE.f k w0 blk off d (grow (wr.drewN n) os)):=fun n os=>S1.out.grown n os;have HM:Aside (Mono (fun c => !ltOf cf d[p - c]! d[c]!) a m):=Xrr HW.out H1.out H2.out lb1.1 lb1.2.2.1 lb1.2.2.2.1 lb1.2.2.2.2.1 lb1.2.2.2.2.2;have HXY:Aside (d[p - h]! = x∧d[h]! = y):=⟨hx,hy⟩;clear hx hy S1
    by_cases hlv:cf x y<0
    ·have hlb:decide (cf x y<0)=true:=by simpa using hlv
     go_wp2_with fail;go_quiet_grown (first | (go_at_fn g; refine Calls.grown_of (hcg _ _)))
     go_wp2;go_roundg (h - i)
     case measure=>omega
     case rel=>exact ⟨i,h,rfl,rfl,Nat.le_refl _,C.out.left HM.out hh1 hh2 (by simp only[HXY.out.1,HXY.out.2,ltOf]; simp[hlv]),S2.out _ _⟩
    ·have hlb:decide (cf x y<0)=false:=by simpa using hlv
     go_wp2_with fail;go_quiet_grown (first | (go_at_fn g; refine Calls.grown_of (hcg _ _)))
     go_wp2;go_roundg (j - (h+1))
     case measure=>omega
     case rel=>exact ⟨h+1,j,by go_num,rfl,Nat.le_refl _,C.out.right HM.out hh1 hh2 (by simp only[HXY.out.1,HXY.out.2,ltOf]; simp[hlv]),S2.out _ _⟩
   ·have hltz:¬ (i:Int)<(j:Int):=by omega
    obtain rfl:i=j:=by omega
    clear HS hltz hlt hkx c2;have C2:=C.out;rw[HN2.out.2] at C2;have e0:i≤n:=by have:=HN2.out; omega
    obtain ⟨e,he⟩:∃e:Nat,e=n - i:=⟨_,rfl⟩;have hee:(n:Int) - (i:Int)=(e:Int):=by omega
    have hem:mid+m - i=e:=by have:=HN2.out; omega
    have HH:=fun d' (h:Rot i m e d d')=>halves HW.out H1.out H2.out HMID.out ham hmb HLO.out HHI.out C2 (by rw[hem]; exact h) hb
    rw[hem] at HH;have e1:a≤i∧i≤mid∧i≤m∧mid≤e∧m≤e∧e≤b:=by have:=HN2.out; have:=HLO.out; have:=HHI.out; have:=HMID.out; omega
    have HT1:Aside (∀d' w',Rot i m e d d' → SWK hdE.f k w0 blk off d' w' → StT1 hdE.f k (ltOf cf) w0 blk off a b i mid e d w'):=fun d' w' hr hS=>⟨d',(HH d' hr).2.2.2.2.2.2.1,(HH d' hr).2.2.2.2.2.2.2,hS⟩;have HROT:Aside (i<m→m<e→Calls Tryz.prog 235 #[.slice (some ⟨blk,off,none⟩) d0.size cap,.int .i64 i,.int .i64 m,.int .i64 e,.func (.func g) #[] cb] wr fun ee w' => ee = .returned (.tuple #[])∧StT1 hdE.f k (ltOf cf) w0 blk off a b i mid e d w'):=fun r1 r2=>by
     have h:=Xkx k HK4.out g cb blk off cap i m e d0 d w0 wr R hs.symm S1.out r1 r2 (by omega) (by omega)
     rw[hs] at h;refine h.mono ?_;rintro ee w' ⟨rfl,d',hr,hS⟩;exact ⟨rfl,HT1.out d' w' hr hS⟩
    have HN1:Aside (¬ (i<m∧m<e)→StT1 hdE.f k (ltOf cf) w0 blk off a b i mid e d wr):=fun hno=>HT1.out d wr (Rot.none i e d m (by omega) (by omega) (by omega)) S1.out
    have HLEFT:Aside (a<i→i<mid → ∀w,StT1 hdE.f k (ltOf cf) w0 blk off a b i mid e d w→Calls Tryz.prog 226 #[.slice (some ⟨blk,off,none⟩) d0.size cap,.int .i64 a,.int .i64 i,.int .i64 mid,.func (.func g) #[] cb] w fun ee w' => ee = .returned (.tuple #[])∧StT2 hdE.f k (ltOf cf) w0 blk off a b i mid e d w'):=fun r1 r2 w ⟨d1,p1,H,S⟩=>by
     have z1:d1.size=d.size:=p1.1;refine (HIH.out a i mid d1 w (by omega) r1 r2 (by omega) (by omega) S H.as H.sm).mono ?_
     rintro ee w' ⟨rfl,d2,p2,s2,S2⟩;exact ⟨rfl,d1,d2,p1,H,p2,s2,S2⟩
    have HN2':Aside (¬ (a<i∧i<mid) → ∀w,StT1 hdE.f k (ltOf cf) w0 blk off a b i mid e d w→StT2 hdE.f k (ltOf cf) w0 blk off a b i mid e d w):=fun hno w t=>StT1.skip e1.1 hno t;have HRIGHT:Aside (mid<e→e<b → ∀w,StT2 hdE.f k (ltOf cf) w0 blk off a b i mid e d w→Calls Tryz.prog 226 #[.slice (some ⟨blk,off,none⟩) d0.size cap,.int .i64 mid,.int .i64 e,.int .i64 b,.func (.func g) #[] cb] w fun ee w' => ee = .returned (.tuple #[])∧StT3 hdE.f k (ltOf cf) w0 blk off a b d w'):=fun r1 r2 w t=>by
     have t0:=t;obtain ⟨d1,d2,p1,H,p2,s2,S⟩:=t0;have z1:d1.size=d.size:=p1.1;have z2:d2.size=d1.size:=p2.1;have hsame:∀t,mid≤t→t<b→d2[t]! = d1[t]! := fun t h1 _=>p2.2.1 t (Or.inr h1);refine (HIH.out mid e b d2 w (by omega) r1 r2 (by omega) (by omega) S (SortedIn.same H.me fun t h1 h2=>hsame t h1 (by omega)) (SortedIn.same H.eb fun t h1 h2=>hsame t (by omega) h2)).mono ?_
     rintro ee w' ⟨rfl,d3,p3,s3,S3⟩;have hd:=Xc6 H e1.1 e1.2.1 e1.2.2.2.1 e1.2.2.2.2.2 (by omega) p2 s2 p3 s3
     exact ⟨rfl,d3,permIn_trans _ _ _ _ _ p1 hd.1,hd.2,S3⟩
    have HN3:Aside (¬ (mid<e∧e<b) → ∀w,StT2 hdE.f k (ltOf cf) w0 blk off a b i mid e d w→StT3 hdE.f k (ltOf cf) w0 blk off a b d w):=fun hno w t=>StT2.skip e1.1 e1.2.1 e1.2.2.2.1 e1.2.2.2.2.2 hb hno t;have HEM:=Lib.hid hem;have HE1:=Lib.hid e1;clear HH HT1 S1 C C2 he hem e1 c1 c3
    by_cases x1:(i:Int)<(m:Int) <;> by_cases x2:(m:Int)<(e:Int) <;> by_cases x3:(a:Int)<(i:Int) <;> by_cases x4:(i:Int)<(mid:Int) <;> by_cases x5:(mid:Int)<(e:Int) <;> by_cases x6:(e:Int)<(b:Int)
    all_goals first
     | (exfalso; have:=HEM.out; have:=HE1.out; omega)
     | (go_wp2_with (first
         | (go_at_call 235
            with_reducible refine (HROT.out (by omega) (by omega)).mono ?_
            rintro ee wa ⟨rfl,t1⟩;have t1:Aside (StT1 hdE.f k (ltOf cf) w0 blk off a b i mid e d wa):=t1)
         | (go_at_call 226
            with_reducible refine (HLEFT.out (by omega) (by omega) _ (by first | exact t1.out | exact HN1.out (by omega))).mono ?_
            rintro ee wb ⟨rfl,t2⟩;have t2:Aside (StT2 hdE.f k (ltOf cf) w0 blk off a b i mid e d wb):=t2)
         | (go_at_call 226
            with_reducible refine (HRIGHT.out (by omega) (by omega) _ (by first | exact t2.out | exact HN2'.out (by omega) _ t1.out | exact HN2'.out (by omega) _ (HN1.out (by omega)))).mono ?_
            rintro ee wc ⟨rfl,t3⟩;have t3:Aside (StT3 hdE.f k (ltOf cf) w0 blk off a b d wc):=t3))
        go_end0;exact ⟨rfl,by first | exact t3.out | exact HN3.out (by omega) _ t2.out | exact HN3.out (by omega) _ (HN2'.out (by omega) _ t1.out) | exact HN3.out (by omega) _ (HN2'.out (by omega) _ (HN1.out (by omega)))⟩)
end
section
attribute [-simp] Tryz.isAgg99 Tryz.sizeOf99 Tryz.typeInfo99
theorem Xmn [Inhabited Hld](cf:Hld→Hld→Int)(hw:SWO (ltOf cf))(g:Nat)(cb:Array Value)(blk off cap:Nat)(d0:Array Hld)(w0:World)
  (eg:∀args w,(callFunc g args).run Tryz.prog w = .ok (.enter g args) w) (hC:CmpLays Tryz.prog g cb hdE.f hdE.k cf blk off d0.size w0) (R:RowK hdE.f hdE.k w0 blk off d0) (hsz:d0.size≤1000000000)
  (a b:Nat) (d:Array Hld) (w:World) (hab:a≤b) (hb:b≤d0.size) (hs:d.size=d0.size) (S:SWK hdE.f hdE.k w0 blk off d w) :
  Calls Tryz.prog 182 #[.slice (some ⟨blk,off,none⟩) d0.size cap,.int .i64 a,.int .i64 b,.func (.func g) #[] cb] w fun e w' => e = .returned (.tuple #[]) ∧ ∃d',PermIn a b d d' ∧ SortedIn (ltOf cf) a b d' ∧ SWK hdE.f hdE.k w0 blk off d' w':=by
 have hC2:CmpLays Tryz.prog g cb hdE.f hdE.k cf blk off d.size w:=fun m os dk hk x y=>by
  obtain ⟨n1,o1,h1⟩:=S.on R.hblk m dk os hk;rw[h1];exact hC n1 o1 dk (by omega) x y
 have h:=AnyQ.insertionSortCmpFunc insHd hdE.k Tryz.isAgg99 Tryz.sizeOf99 hdE.f R.hk R.h1 cf g cb blk off cap a b d w eg hC2 (S.holds R.hblk R.hH hs) (S.lt R.hblk) hab (by omega) (by omega)
 have hp:=Sort.insertionSort_holds (lt:=ltOf cf) hw d a b hab (by omega)
 change Calls Tryz.prog 182 _ _ _ at h
 rw[hs] at h;refine h.mono ?_;rintro e w' ⟨rfl,n,os,rfl⟩;exact ⟨rfl,_,hp.1,hp.2,S.on R.hblk n _ os hp.1.1⟩
end
theorem Xph [Inhabited Hld](cf:Hld→Hld→Int)(hw:SWO (ltOf cf))(g:Nat)(cb:Array Value)(blk off cap:Nat)(d0:Array Hld)(w0:World)
  (eg:∀args w,(callFunc g args).run Tryz.prog w = .ok (.enter g args) w) (hC:CmpLays Tryz.prog g cb hdE.f hdE.k cf blk off d0.size w0) (R:RowK hdE.f hdE.k w0 blk off d0) (hsz:d0.size≤1000000000) :
  Calls Tryz.prog 204 #[.slice (some ⟨blk,off,none⟩) d0.size cap,.int .i64 d0.size,.func (.func g) #[] cb] w0 fun e w' => e = .returned (.tuple #[]) ∧ ∃d',PermIn 0 d0.size d0 d' ∧ SortedIn (ltOf cf) 0 d0.size d' ∧ SWK hdE.f hdE.k w0 blk off d' w':=by
 have HI:=Lib.hid (fun a b d w hab hb hs S=>Xmn cf hw g cb blk off cap d0 w0 eg hC R hsz a b d w hab hb hs S);have HM:=Lib.hid (fun a m b d w h1 h2 h3 hs S s1 s2=>Xm5 hdE.k rfl cf hw g cb blk off cap d0 w0 eg hC R (by omega) (b - a) a m b d w (Nat.le_refl _) h1 h2 h3 hs S s1 s2)
 have HS0:=Lib.hid (SWK.start R.hH);clear hC R hw;generalize hN:d0.size=N at *;have HNN:=Lib.hid hN;clear hN;go_enter Tryz.func204,Tryz.ntmps204;go_wp2_with fail;go_loopg [7,8] N (fun kx s7 s8 wr => ∃(a:Nat) (dk:Array Hld),s7 = .int .i64 a∧s8 = .int .i64 ((a+20:Nat):Int)∧a≤N∧N - a≤kx∧Hid (20 ∣ a∧PermIn 0 N d0 dk∧BlkP (ltOf cf) 20 0 a dk∧SWK hdE.f hdE.k w0 blk off dk wr))
 case atStart=>exact ⟨0,d0,rfl,rfl,Nat.zero_le _,Nat.le_refl _,⟨by omega,permIn_refl _ _ _,BlkP.nil _ _,HS0.out⟩⟩
 case round =>
  clear HS0;obtain ⟨a,dk,rfl,rfl,haN,hkx,HK⟩:=hrel;have HDZ:Hid (dk.size=N):=by have:=HK.out.2.1.1; have:=HNN.out; show _=_; omega
  by_cases hlt:a+20≤N
  ·have hltz:((a+20:Nat):Int)≤(N:Int):=by omega
   have HC:=Lib.hid (HI.out a (a+20) dk wr (by omega) hlt (by have:=HDZ.out; have:=HNN.out; omega) HK.out.2.2.2)
   go_wp2_with (go_at_call 182; refine HC.out.mono ?_; rintro e w1 ⟨rfl,d1,p1,s1,S1⟩);go_roundg (N - (a+20))
   case measure=>omega
   case rel =>
    refine ⟨a+20,d1,by first | rfl | go_num,by go_num,hlt,Nat.le_refl _,⟨by have:=HK.out.1; omega,permIn_trans _ _ _ _ _ HK.out.2.1 (permIn_mono _ _ _ _ _ _ (Nat.zero_le _) hlt (by have:=HDZ.out; omega) p1),BlkP.snoc HK.out.2.2.1 HK.out.1 s1 p1,S1⟩⟩
  ·have hltz:¬ ((a+20:Nat):Int)≤(N:Int):=by omega
   have HC:=Lib.hid (HI.out a N dk wr haN (Nat.le_refl _) (by have:=HDZ.out; have:=HNN.out; omega) HK.out.2.2.2)
   go_wp2_with (go_at_call 182; refine HC.out.mono ?_; rintro e w1 ⟨rfl,d1,p1,s1,S1⟩);have HQ:Hid (PermIn 0 N d0 d1∧BlkP (ltOf cf) 20 0 N d1∧SWK hdE.f hdE.k w0 blk off d1 w1):=⟨permIn_trans _ _ _ _ _ HK.out.2.1 (permIn_mono _ _ _ _ _ _ (Nat.zero_le _) (Nat.le_refl _) (by have:=HDZ.out; omega) p1),BlkP.snoc HK.out.2.2.1 HK.out.1 s1 p1,S1⟩
   clear HK p1 s1 S1;go_loopg [6,7,8,9] (N+1) (fun kx s6 s7 s8 s9 wr => ∃(bs:Nat) (dk:Array Hld),s6 = .int .i64 bs∧0<bs∧bs≤2 * N+20∧N - bs≤kx∧Hid (PermIn 0 N d0 dk∧BlkP (ltOf cf) bs 0 N dk∧SWK hdE.f hdE.k w0 blk off dk wr))
   case atStart=>exact ⟨20,d1,rfl,by omega,by omega,by omega,HQ⟩
   case round =>
    clear HQ HDZ;obtain ⟨bs,dk,rfl,hb0,hbN,hkx2,HK⟩:=hrel
    by_cases hlb:bs<N
    ·have hlbz:(bs:Int)<(N:Int):=by omega
     have hb2:IntKind.i64.wrap ((2:Int) * (bs:Int))=((2 * bs:Nat):Int):=by rw[IntKind.wrap_i64]; omega
     have hb3:IntKind.i64.wrap ((bs:Int) * (2:Int))=((2 * bs:Nat):Int):=by rw[IntKind.wrap_i64]; omega
     go_wp2_with fail;go_loopg [7,8] N (fun kx s7 s8 wr => ∃(a:Nat) (dk:Array Hld),s7 = .int .i64 a∧s8 = .int .i64 ((a+2 * bs:Nat):Int)∧a≤N∧N - a≤kx∧Hid (2 * bs ∣ a∧PermIn 0 N d0 dk∧BlkP (ltOf cf) (2 * bs) 0 a dk∧BlkP (ltOf cf) bs a N dk∧SWK hdE.f hdE.k w0 blk off dk wr))
     case atStart=>exact ⟨0,dk,rfl,by go_num,Nat.zero_le _,Nat.le_refl _,⟨⟨0,by omega⟩,HK.out.1,BlkP.nil _ _,HK.out.2.1,HK.out.2.2⟩⟩
     case round =>
      clear HK;obtain ⟨a2,dj,rfl,rfl,ha2,hkx3,HK⟩:=hrel;have HDZ:Hid (dj.size=N):=by have:=HK.out.2.1.1; have:=HNN.out; show _=_; omega
      have HDV:Hid (bs ∣ a2∧bs ∣ a2+bs):=by
       have h:bs ∣ a2:=Nat.dvd_trans ⟨2,by omega⟩ HK.out.1
       exact ⟨h,Nat.dvd_add h (Nat.dvd_refl _)⟩
      by_cases hl2:a2+2 * bs≤N
      ·have hl2z:((a2+2 * bs:Nat):Int)≤(N:Int):=by omega
       have hmz:IntKind.i64.wrap ((a2:Int)+(bs:Int))=((a2+bs:Nat):Int):=by rw[IntKind.wrap_i64]; omega
       have hnz:IntKind.i64.wrap (((a2+2 * bs:Nat):Int)+((2 * bs:Nat):Int))=((a2+2 * bs+2 * bs:Nat):Int):=by rw[IntKind.wrap_i64]; omega
       have HC:=Lib.hid (HM.out a2 (a2+bs) (a2+2 * bs) dj wr (by omega) (by omega) (by have:=HDZ.out; omega) (by have:=HDZ.out; have:=HNN.out; omega) HK.out.2.2.2.2 (BlkP.sorted HK.out.2.2.2.1 HDV.out.1 (Nat.le_refl _) (Nat.le_refl _) (by omega)) (BlkP.sorted HK.out.2.2.2.1 HDV.out.2 (by omega) (by omega) hl2))
       go_wp2_with (go_at_call 226; refine HC.out.mono ?_; rintro e w2 ⟨rfl,d2,p2,s2,S2⟩);go_roundg (N - (a2+2 * bs))
       case measure=>omega
       case rel =>
        refine ⟨a2+2 * bs,d2,by first | rfl | go_num,by go_num,hl2,Nat.le_refl _,⟨Nat.dvd_add HK.out.1 (Nat.dvd_refl _),permIn_trans _ _ _ _ _ HK.out.2.1 (permIn_mono _ _ _ _ _ _ (Nat.zero_le _) hl2 (by have:=HDZ.out; omega) p2),BlkP.snoc HK.out.2.2.1 HK.out.1 s2 p2,BlkP.rest HK.out.2.2.2.1 (by omega) p2,S2⟩⟩
      ·have hl2z:¬ ((a2+2 * bs:Nat):Int)≤(N:Int):=by omega
       have hmz:IntKind.i64.wrap ((a2:Int)+(bs:Int))=((a2+bs:Nat):Int):=by rw[IntKind.wrap_i64]; omega
       by_cases hl3:a2+bs<N
       ·have hl3z:((a2+bs:Nat):Int)<(N:Int):=by omega
        have HC:=Lib.hid (HM.out a2 (a2+bs) N dj wr (by omega) hl3 (by have:=HDZ.out; omega) (by have:=HDZ.out; have:=HNN.out; omega) HK.out.2.2.2.2 (BlkP.sorted HK.out.2.2.2.1 HDV.out.1 (Nat.le_refl _) (Nat.le_refl _) (by omega)) (BlkP.sorted HK.out.2.2.2.1 HDV.out.2 (by omega) (by omega) (Nat.le_refl _)))
        go_wp2_with (go_at_call 226; refine HC.out.mono ?_; rintro e w2 ⟨rfl,d2,p2,s2,S2⟩);go_roundg (N - 2 * bs)
        case measure=>omega
        case rel=>exact ⟨2 * bs,d2,by first | go_num | rfl,by omega,by omega,Nat.le_refl _,⟨permIn_trans _ _ _ _ _ HK.out.2.1 (permIn_mono _ _ _ _ _ _ (Nat.zero_le _) (Nat.le_refl _) (by have:=HDZ.out; omega) p2),BlkP.snoc HK.out.2.2.1 HK.out.1 s2 p2,S2⟩⟩
       ·have hl3z:¬ ((a2+bs:Nat):Int)<(N:Int):=by omega
        have HL:=Lib.hid (BlkP.sorted HK.out.2.2.2.1 HDV.out.1 (Nat.le_refl _) (by omega:N≤a2+bs) (Nat.le_refl _))
        go_wp2;go_roundg (N - 2 * bs)
        case measure=>omega
        case rel=>exact ⟨2 * bs,dj,by first | go_num | rfl,by omega,by omega,Nat.le_refl _,⟨HK.out.2.1,BlkP.snoc HK.out.2.2.1 HK.out.1 HL.out (permIn_refl _ _ _),HK.out.2.2.2.2⟩⟩
    ·have hlbz:¬ (bs:Int)<(N:Int):=by omega
     have HL:=Lib.hid (BlkP.sorted HK.out.2.1 (a:=0) ⟨0,by omega⟩ (Nat.le_refl _) (by omega:N≤0+bs) (Nat.le_refl _))
     go_wp2;go_end0;exact ⟨rfl,dk,HK.out.1,HL.out,HK.out.2.2⟩
end Go.Proofs.YtebkgbmijocdjaaGreat.Tp
