/- A part of the proof for the ledger. No condition beyond those that each theorem states. -/
import Derived.Test.YtebkgbmijocdjaaGreatZ49
set_option maxHeartbeats 32000000
set_option maxRecDepth 100000
set_option linter.unusedVariables false
set_option linter.unusedSimpArgs false
namespace Go.Proofs.YtebkgbmijocdjaaGreat.Tp
open Go Go.RowKit
structure Lm where
 A:Option Addr
 c:Nat
 ts:List Tk
structure Vm where
 acc:Bool
 num:Int
 Am:Option Addr
 m:Nat
 cm:Nat
 Ad:Option Addr
 d:Nat
 cd:Nat
 Ab:Option Addr
 nb:Nat
 cb:Nat
def lmE (Aq:Option Addr)(cq:Nat)(Ac:Option Addr)(cc:Nat)(p:Pln):Enc Lm:=⟨4,fun x => [.slice Aq p.q.length cq,.slice Ac p.c.length cc,.slice none 0 0,.slice x.A x.ts.length x.c],fun _=>rfl,fun x v hv=>by
 simp only[List.mem_cons,List.not_mem_nil,or_false] at hv;rcases hv with rfl | rfl | rfl | rfl <;> rfl⟩
def vmE:Enc Vm:=⟨5,fun v => [.bool v.acc,.int .i64 v.num,.slice v.Am v.m v.cm,.slice v.Ad v.d v.cd,.slice v.Ab v.nb v.cb],fun _=>rfl,fun x v hv=>by
 simp only[List.mem_cons,List.not_mem_nil,or_false] at hv;rcases hv with rfl | rfl | rfl | rfl | rfl <;> rfl⟩
def Xsj (a b:List Tk)(v:Vm):Prop:=(a.length≤b.length∧v.m+v.d≤1000) ∧ ∀(i:Nat)(x y:Tk),a[i]? = some x→b[i]? = some y→(x.rq.prio=2→y=x)∧(x.rq.cust=true→y.st=1∧y.hops ≠ [] ∧ Xac y.hops≤y.rq.dead)∧(y ≠ x→v.m ≠ 0∨v.d ≠ 0)
theorem Xod {p:Pln}{now:Int}{ts ts':List Tk}{vs M D:List Int}(h:Xd0 p now ts vs M D ts'):M.length+D.length=vs.length:=by
 induction h with
 | nil ts=>rfl
 | moved h1 _ ih=>simp only[List.length_cons]; omega
 | dropped h1 _ ih=>simp only[List.length_cons]; omega
theorem Xr2 {p:Pln}{ts:List Tk}{q:Rq}{now:Int}{o:AccO}(h:AccR p ts q now o)(hn:Xbh ts)(hl:ts.length≤64):o.mv.length+o.dr.length≤1000:=by
 cases h with
 | refused _ _=>show 0+0≤1000; omega
 | plain _ _ _=>show 0+0≤1000; omega
 | exch h0 h1 h2 h3 h4 h5 h6 h7 =>
   rename_i t t2 pl m M D ts'
   have h8:=Xod h6;rw[Xix hn h0] at h8;have h9:(vicF p now m ts).length≤(Xbk p now ts).length:=List.length_filter_le _ _;have h10:=Xf5 p now ts;show M.length+D.length≤1000;omega
theorem Xt8 {p:Pln}{ts:List Tk}{q:Rq}{now:Int}{o:AccO}{v:Vm}(h:AccR p ts q now o)(hn:Xbh ts)(hl0:ts.length≤64)(hJ:JC ts)(h1:v.m=o.mv.length)(h2:v.d=o.dr.length):Xsj ts o.ts v∧JC o.ts:=by
 obtain ⟨j,hl,hs⟩:=Xsh h hn hJ;have hml:=Xr2 h hn hl0;refine ⟨⟨⟨hl,by omega⟩,fun i x y hx hy=>?_⟩,j⟩
 obtain ⟨s1,s2,s3,s4⟩:=hs i x y hx hy;refine ⟨s3,fun hc=>j y (List.mem_of_getElem? hy) (by rw[s2]; exact hc),fun hne=>?_⟩
 rcases s4 hne with h | h
 ·exact .inl (by rw[h1]; exact fun e=>h (List.eq_nil_of_length_eq_zero e))
 ·exact .inr (by rw[h2]; exact fun e=>h (List.eq_nil_of_length_eq_zero e))
theorem Xr1 {p:Pln}{ts:List Tk}{q:Rq}{now:Int}{o:AccO}(h:AccR p ts q now o)(hn:Xbh ts):(o.acc=false∧o.ts=ts)∨o.ts ≠ []:=by
 cases h with
 | refused _ _=>exact .inl ⟨rfl,rfl⟩
 | plain _ _ _=>refine .inr ?_; rw[Xb hn rfl]; simp
 | exch h0 h1 h2 h3 h4 h5 h6 h7 =>
   rename_i t t2 pl m M D ts'
   refine .inr fun e=>?_;have h8:=(Xfg h6).1;rw[Xb hn rfl] at h8;have e:ts' = []:=e;rw[e] at h8;simp at h8
def Steps (LL:List Lm)(VV:List Vm):Prop:=LL.length≤VV.length+1 ∧ ∀(i:Nat)(a b:Lm)(v:Vm),LL[i]? = some a→LL[i+1]? = some b→VV[i]? = some v→Xsj a.ts b.ts v
theorem Steps.snoc {LL:List Lm}{VV:List Vm}{l x:Lm}{v:Vm}(h:Steps LL VV)(hl:LL.getLast? = some l)(he:LL.length=VV.length+1)(hs:Xsj l.ts x.ts v):Steps (LL ++ [x]) (VV ++ [v]):=by
 refine ⟨by simp; omega,fun i a b u ha hb hu=>?_⟩
 obtain ⟨L0,rfl⟩:=List.getLast?_eq_some_iff.1 hl;simp only[List.length_append,List.length_cons,List.length_nil] at he;have hi:=(List.getElem?_eq_some_iff.1 hb).1;simp at hi
 by_cases h1:i+1<L0.length+1
 ·rw[List.getElem?_append_left (by simp; omega)] at ha hb
  rw[List.getElem?_append_left (by omega)] at hu
  exact h.2 i a b u ha hb hu
 ·obtain rfl:i=L0.length:=by omega
  rw[List.getElem?_append_left (by simp),List.getElem?_append_right (Nat.le_refl _)] at ha
  rw[List.getElem?_append_right (by simp)] at hb
  rw[List.getElem?_append_right (by omega)] at hu
  have e1:l=a:=by simpa using ha
  have e2:x=b:=by simpa using hb
  have e3:v=u:=by
   have:L0.length - VV.length=0:=by omega
   rw[this] at hu;simpa using hu
  subst e1 e2 e3;exact hs
theorem LgAt.rows {W X:World}{Aq Ac A:Option Addr}{cq cc c:Nat}{p:Pln}{ts:List Tk}{base k n:Nat}{T:TypeId}{v:Value}{xs:List Value}(h:LgAt W Aq cq Ac cc p A c ts)(hp:Xas X Aq cq Ac cc p)(hr:W.ownsRow base T k v n xs)(hT:T ≠ 41)(hg:W.grownBy X v.ownBlock)(hd:∀a,A=some a→v.ownBlock ≠ some a.block):LgAt X Aq cq Ac cc p A c ts:=by
 obtain ⟨_,⟨ms,hms,hs,hh⟩,tl,tm,hm⟩:=h;refine ⟨hp,⟨ms,hms,Xj5 hs (Fr.grown hg) (fun a ha e=>hd a ha e),fun m hm=>Xep (hh m hm) (Fr.grown hg) (fun j cs mk hj e=>?_)⟩,tl,tm,hm⟩;obtain ⟨cs',hb⟩:=Xbn hr e;exact Xdx hb hT hj rfl
structure Xd5 (n0:Nat)(Aq:Option Addr)(cq:Nat)(Ac:Option Addr)(cc:Nat)(p:Pln)(vo:Value)(LL:List Lm)(vv:Value)(VV:List Vm)(W:World):Prop where
 ro:W.ownsRow n0 53 4 vo LL.length (LL.flatMap (lmE Aq cq Ac cc p).f)
 rv:W.ownsRow n0 59 5 vv VV.length (VV.flatMap vmE.f)
 lg:∀x ∈ LL,LgAt W Aq cq Ac cc p x.A x.c x.ts
 ap:∀x ∈ LL,∀a,x.A=some a→vo.ownBlock ≠ some a.block∧vv.ownBlock ≠ some a.block∧a.block<W.heap.size
section
variable {n0:Nat} {w W W1:World} {Aq:Option Addr} {cq:Nat} {Ac:Option Addr} {cc:Nat} {p:Pln} {vo vv v':Value} {LL:List Lm} {VV:List Vm}
theorem Xd5.below (h:Xd5 n0 Aq cq Ac cc p vo LL vv VV W)(hb:Below W.heap.size W W1):Xd5 n0 Aq cq Ac cc p vo LL vv VV W1 :=
 ⟨Xa6 h.ro hb,Xa6 h.rv hb,fun x hx=>(h.lg x hx).below hb,fun x hx a e=>by have h1:=h.ap x hx a e; have h2:=hb.size; exact ⟨h1.1,h1.2.1,by omega⟩⟩
theorem Xd5.box {g:Nat}{A0 A1 A2 A3:Option Addr}{k0 k1 k2 k3 c0 c1 c2 c3:Nat}(h:Xd5 n0 Aq cq Ac cc p vo LL vv VV W)(hp:Xas W1 Aq cq Ac cc p)(hb:Bk W g 53 #[.slice A0 k0 c0,.slice A1 k1 c1,.slice A2 k2 c2,.slice A3 k3 c3])(hg:W.grownBy W1 (some g))(hn:vo.ownBlock ≠ some g):Xd5 n0 Aq cq Ac cc p vo LL vv VV W1 :=
 ⟨Xde h.ro (Fr.grown hg) (fun r e e2=>hn (by rw[e,e2])),Xde h.rv (Fr.grown hg) (fun r e e2=>by
  obtain ⟨cs,hb2⟩:=Xbn h.rv e;exact Xeq hb hb2 (by decide) (Option.some.inj e2)),fun x hx=>(h.lg x hx).store hp hb (Fr.grown hg),fun x hx a e=>by have h1:=h.ap x hx a e; have h2:=hg.size; exact ⟨h1.1,h1.2.1,by omega⟩⟩
theorem Xd5.addL {x:Lm}(h:Xd5 n0 Aq cq Ac cc p vo LL vv VV W)(hp:Xas W1 Aq cq Ac cc p)(hr:W1.ownsRow n0 53 4 v' (LL.length+1) (LL.flatMap (lmE Aq cq Ac cc p).f ++ [x].flatMap (lmE Aq cq Ac cc p).f))(hg:W.grownBy W1 vo.ownBlock)(ho:v'.ownBlock=vo.ownBlock∨v'.ownBlock=some W.heap.size)
  (hx:LgAt W Aq cq Ac cc p x.A x.c x.ts) (hxa:∀a,x.A=some a→vo.ownBlock ≠ some a.block∧vv.ownBlock ≠ some a.block∧a.block<W.heap.size):Xd5 n0 Aq cq Ac cc p v' (LL ++ [x]) vv VV W1:=by
 have all:∀y ∈ LL ++ [x],LgAt W Aq cq Ac cc p y.A y.c y.ts ∧ ∀a,y.A=some a→vo.ownBlock ≠ some a.block∧vv.ownBlock ≠ some a.block∧a.block<W.heap.size:=fun y hy=>by
  rcases List.mem_append.1 hy with e | e
  ·exact ⟨h.lg y e,h.ap y e⟩
  ·rw[List.mem_singleton.1 e]; exact ⟨hx,hxa⟩
 refine ⟨by rw[List.length_append,List.flatMap_append]; exact hr,Xbz h.ro h.rv (by decide) hg,fun y hy=>?_,fun y hy a e=>?_⟩
 ·obtain ⟨h1,h2⟩:=all y hy;exact h1.rows hp h.ro (by decide) hg (fun a e=>(h2 a e).1)
 ·obtain ⟨_,h2⟩:=all y hy;obtain ⟨h3,h4,h5⟩:=h2 a e;refine ⟨?_,h4,by have:=hg.size; omega⟩
  rcases ho with ho | ho
  ·rw[ho]; exact h3
  ·rw[ho]; simp; omega
theorem Xd5.addV {v:Vm}(h:Xd5 n0 Aq cq Ac cc p vo LL vv VV W)(hp:Xas W1 Aq cq Ac cc p)(hr:W1.ownsRow n0 59 5 v' (VV.length+1) (VV.flatMap vmE.f ++ [v].flatMap vmE.f))(hg:W.grownBy W1 vv.ownBlock)(ho:v'.ownBlock=vv.ownBlock∨v'.ownBlock=some W.heap.size):Xd5 n0 Aq cq Ac cc p vo LL v' (VV ++ [v]) W1:=by
 refine ⟨Xbz h.rv h.ro (by decide) hg,by rw[List.length_append,List.flatMap_append]; exact hr,fun y hy=>(h.lg y hy).rows hp h.rv (by decide) hg (fun a e=>(h.ap y hy a e).2.1),fun y hy a e=>?_⟩
 obtain ⟨h3,h4,h5⟩:=h.ap y hy a e;refine ⟨h3,?_,by have:=hg.size; omega⟩
 rcases ho with ho | ho
 ·rw[ho]; exact h4
 ·rw[ho]; simp; omega
end
def Xu2 (Aq:Option Addr)(cq:Nat)(Ac:Option Addr)(cc:Nat)(p:Pln)(w:World)(e:Ending)(w':World):Prop:=Below w.heap.size w w' ∧ ∃(Ao:Option Addr)(co:Nat)(LL:List Lm)(Av:Option Addr)(cv:Nat)(VV:List Vm),e = .returned (.tuple #[.slice Ao LL.length co,.slice Av VV.length cv])∧Steps LL VV∧LL.length≤6∧SlAt (lmE Aq cq Ac cc p) w' Ao LL∧SlAt vmE w' Av VV ∧ ∀x ∈ LL,LgAt w' Aq cq Ac cc p x.A x.c x.ts
theorem infolg:(Tryz.prog.info? 53).map (fun i=>(i.zero,i.size,i.bytes))=some (some (.agg #[.slice none 0 0,.slice none 0 0,.slice none 0 0,.slice none 0 0]),4,96):=by kernel_rfl
theorem infovd:(Tryz.prog.info? 59).map (fun i=>(i.zero,i.size,i.bytes))=some (some (.agg #[.bool false,.int .i64 0,.slice none 0 0,.slice none 0 0,.slice none 0 0]),5,88):=by kernel_rfl
theorem Xlx (Aq:Option Addr)(cq:Nat)(Ac:Option Addr)(cc:Nat)(p:Pln)(R:Option Addr)(cR:Nat)(rs:List Rq)(w:World)(hp:Xas w Aq cq Ac cc p)(hr:SlAt rqE w R rs)(hlen:rs.length≤5) :
  Calls Tryz.prog 16 #[.agg (plA Aq cq Ac cc p),.slice R rs.length cR] w (Xu2 Aq cq Ac cc p w):=by
 obtain ⟨W,n0,hW,hn,HSZ,HB,HK0⟩:=box1 w 25 (plA Aq cq Ac cc p);have HP:Hid (∀w',Below n0 w w' → Xas w' Aq cq Ac cc p):=fun w' hb=>hp.below (by rw[hn]; exact hb)
 have HRS:Hid (∀w',Below n0 w w' → SlAt rqE w' R rs):=fun w' hb=>hr.below (by rw[hn]; exact hb)
 have HLEN:Hid (rs.length≤5):=hlen;have HNW:=Lib.hid (Xg1 Aq cq Ac cc p W (HP.out _ HB.out));have HN1:Hid (n0<W.heap.size):=HK0.out.lt;obtain ⟨a0,a1⟩:=HK0.out.c2;clear hp hr hlen;go_enter Tryz.func16,Tryz.ntmps16;go_wp2_with fail;clear a0 a1 hW;refine HNW.out.mono ?_;rintro e w2 ⟨hb2,hpost⟩;have HB2:Hid (Below n0 w w2):=HB.out.trans (hb2.mono (by have:=HN1.out; omega))
 have HN2:Hid (n0<w2.heap.size):=by have:=hb2.size; have:=HN1.out; show _<_; omega
 clear hb2 HNW HB HN1 HK0;rcases hpost with ⟨hpok,rfl⟩ | ⟨x,hx,rfl⟩
 ·have HPOK:=Lib.hid hpok;clear hpok;obtain ⟨W3,g3,hW3,hg3,HSZ3,HA3,HK3⟩:=box1 w2 53 (lgA Aq cq Ac cc p none 0 0);obtain ⟨W5,g5,hW5,hg5,HSZ5,HA5,HK5⟩:=box1 W3 53 (lgA Aq cq Ac cc p none 0 0);obtain ⟨W6,g6,hW6,hg6,HSZ6,HA6,HK6⟩:=box1 W5 59 #[];obtain rfl:g5=g3+1:=by have:=HSZ3.out; omega
  obtain rfl:g6=g3+1+1:=by have:=HSZ5.out; omega
  have HW3:=Lib.hid hW3;have HW5:=Lib.hid hW5;have HW6:=Lib.hid hW6;have hs3:W3.heap.size=w2.heap.size+1:=by rw[hg3]; exact HSZ3.out
  clear hW3 hW5 hW6;have hal5:Below W3.heap.size W3 W5:=by rw[hg5]; exact HA5.out
  have hal6:Below W5.heap.size W5 W6:=by rw[hg6]; exact HA6.out
  have hb53:Below w2.heap.size w2 W5:=Xa (by rw[hg3]; exact HA3.out) hal5
  have hb63:Below w2.heap.size w2 W6:=Xa hb53 hal6;have HB6:Hid (Below n0 w W6):=HB2.out.trans (hb63.mono (by have:=HN2.out; omega))
  have HG3:Hid (n0≤g3∧g3<g3+1∧g3+1<g3+1+1):=by have:=HN2.out; have:=HSZ3.out; have:=HSZ5.out; show _∧_; omega
  have HK36:Hid (Bk W6 g3 53 (lgA Aq cq Ac cc p none 0 0)):=(HK3.out.below hal5 HK3.out.lt).below hal6 (HK3.out.below hal5 HK3.out.lt).lt;have HK56:Hid (Bk W6 (g3+1) 53 (lgA Aq cq Ac cc p none 0 0)):=HK5.out.below hal6 HK5.out.lt;have HHI:Hid (Xd5 n0 Aq cq Ac cc p (.slice (some ⟨g3+1,0,none⟩) 1 1) [⟨none,0, []⟩] (.slice (some ⟨g3+1+1,0,none⟩) 0 0) [] W6):=by
   have h1:=HG3.out;refine ⟨⟨by simp[lmE],.inr ⟨g3+1,1,_,rfl,by omega,HK56.out,Nat.le_refl _,by unfold maxLen; decide,by simp,by simp[lmE]⟩⟩,⟨by simp,.inr ⟨g3+1+1,0,_,rfl,by omega,HK6.out,Nat.le_refl _,Nat.zero_le _,by simp,by simp⟩⟩,fun x hx=>?_,fun x hx a e=>?_⟩
   ·rw[List.mem_singleton.1 hx];exact ⟨HP.out _ HB6.out,Xf2.nil _ _,Nat.le_refl _,by simp,by simp⟩
   ·rw[List.mem_singleton.1 hx] at e;cases e
  obtain ⟨a0,a1,a2,a3⟩:=(HK3.out.back HW3.out).c4;go_wp2;rw[HW3.out,HW5.out,HW6.out];clear a0 a1 a2 a3 hg3 hg5 hg6 hs3 hal5 hal6 hb53 hb63 HW3 HW5 HW6 HA3 HA5 HA6 HK3 HK5 HK6 HB2 HN2 HSZ3 HSZ5 HSZ6;go_loopw [8,9,10,28] (fun v8 v9 v10 i wr => ∃(n:Nat) (N:Int) (LL:List Lm) (VV:List Vm) (l:Lm),n≤rs.length∧i = .int .i64 n∧v10 = .int .i64 N∧LL.getLast? = some l∧Steps LL VV∧LL.length=VV.length+1∧LL.length≤n+1∧JC l.ts∧Below n0 w wr∧Bk wr g3 53 #[.slice Aq p.q.length cq,.slice Ac p.c.length cc,.slice none 0 0,.slice l.A l.ts.length l.c] ∧ v8.ownBlock ≠ some g3∧Xd5 n0 Aq cq Ac cc p v8 LL v9 VV wr) (fun _ _ _ i _=>rs.length - (intOf i).toNat)
  case atStart=>exact ⟨0,0, [⟨none,0, []⟩], [],⟨none,0, []⟩,Nat.zero_le _,rfl,rfl,rfl,⟨Nat.le_refl _,fun i a b v _ h=>by simp at h⟩,rfl,Nat.le_refl _,fun k hk=>by simp at hk,HB6.out,HK36.out,by have h1:=HG3.out; show some (g3+1) ≠ some g3; simp,HHI.out⟩
  case round =>
   obtain ⟨n,N,LL,VV,l,hle,rfl,rfl,hgl,hst,hll,hln,hj,hb,hk,hne,hh⟩:=hrel;have HGL:=Lib.hid hgl;have HST:=Lib.hid hst;have HLL:Hid (LL.length=VV.length+1):=hll;have HLN:Hid (LL.length≤n+1):=hln;have HJ:=Lib.hid hj;have HBR:=Lib.hid hb;have HKR:=Lib.hid hk;have HNE:=Lib.hid hne;have HHR:=Lib.hid hh;clear hgl hst hll hln hj hb hk hne hh HB6 HK36 HK56 HHI;have hlm:l ∈ LL:=by
    obtain ⟨L0,e⟩:=List.getLast?_eq_some_iff.1 HGL.out;rw[e]; simp
   have HLM:=Lib.hid hlm;have HS0:Hid (n0≤wr.heap.size):=by have:=HKR.out.lt; have:=HG3.out; show _≤_; omega
   clear hlm
   by_cases hlt:n<rs.length
   ·obtain ⟨bR,oR,rfl,hrow⟩:=(HRS.out wr HBR.out).one (by omega)
    obtain ⟨r,hr⟩:∃r,rs[n]? = some r:=⟨_,List.getElem?_eq_getElem hlt⟩;obtain ⟨v0,v1,v2,v3,v4,v5,v6⟩:=rgRq (hrow n r hr);have hn0:(0:Int)≤(n:Int):=by omega
    have hn1:(n:Int)<(rs.length:Int):=by omega
    obtain ⟨W4,g4,hW4,hg4,HSZ4,HA4,HK4⟩:=box1 wr 31 (rqA r);have hb4:Below wr.heap.size wr W4:=by rw[hg4]; exact HA4.out
    have hg4w:wr.heap.size≤g4:=by omega
    obtain ⟨X1,hX1⟩:∃X,W4.setCell ⟨g4,3,none⟩ (.int .i64 (max r.ready N))=X:=⟨_,rfl⟩;have hx1:Bk X1 g4 31 #[.int .i64 r.src,.int .i64 r.dst,.int .i64 r.size,.int .i64 (max r.ready N),.int .i64 r.dead,.int .i64 r.prio,.bool r.cust]:=by
     rw[←hX1];simpa using HK4.out.put 3 (.int .i64 (max r.ready N))
    obtain ⟨X2,hX2⟩:∃X,X1.setCell ⟨g4,4,none⟩ (.int .i64 (max r.dead (max r.ready N)))=X:=⟨_,rfl⟩;obtain ⟨q,hq⟩:∃q:Rq,q = { r with ready:=max r.ready N,dead:=max r.dead (max r.ready N) }:=⟨_,rfl⟩
    have hx2:Bk X2 g4 31 (rqA q):=by
     rw[←hX2,hq];simpa using hx1.put 4 (.int .i64 (max r.dead (max r.ready N)))
    have hg1:W4.grownBy X1 (some g4):=by rw[←hX1]; exact Xa0 _ _ _ _
    have hg2:X1.grownBy X2 (some g4):=by rw[←hX2]; exact Xa0 _ _ _ _
    have hbX:Below wr.heap.size wr X2:=below_grown (below_grown hb4 hg1 hg4w hb4.size) hg2 hg4w (Nat.le_trans hb4.size hg1.size);have HB2:Hid (Below n0 w X2):=HBR.out.trans (hbX.mono HS0.out);have HK2:=Lib.hid (HKR.out.below hbX HKR.out.lt);have HH2:=Lib.hid (HHR.out.below hbX);have HQ2:Hid (Bk X2 g4 31 (rqA q)):=hx2;have HG4:Hid (wr.heap.size≤g4∧g3<wr.heap.size):=⟨hg4w,HKR.out.lt⟩;have HSX:Hid (wr.heap.size≤X2.heap.size∧n0≤X2.heap.size):=by have:=hbX.size; have:=HS0.out; show _∧_; omega
    have HVB:Hid ((∀r,u8.ownBlock=some r→r<wr.heap.size) ∧ ∀r,u9.ownBlock=some r→r<wr.heap.size):=⟨fun r e=>(HHR.out.ro.lt r e).2,fun r e=>(HHR.out.rv.lt r e).2⟩;have HAC:=Lib.hid (Xen Aq cq Ac cc p l.A l.c l.ts q q.ready X2 (HH2.out.lg l HLM.out));obtain ⟨c0,c1,c2,c3,c4,c5,c6⟩:=HK4.out.c7;have f0:=HK4.out.f7;obtain ⟨d0,d1,d2,d3,d4,d5,d6⟩:=hx1.c7;obtain ⟨e0,e1,e2,e3,e4,e5,e6⟩:=hx1.f7;have b0:=HQ2.out.c7;obtain ⟨a0,a1,a2,a3⟩:=HK2.out.c4;clear hrow hr hb4 hg4w hx1 hx2 hq hg1 hg2 hbX HA4 HKR HHR HBR;go_wp2_with fail;clear a0 a1 a2 a3 b0 c0 c1 c2 c3 c4 c5 c6 d0 d1 d2 d3 d4 d5 d6 e0 e1 e2 e3 e4 e5 e6 f0 v0 v1 v2 v3 v4 v5 v6 hW4 hg4 hX1 hX2 HK4;refine HAC.out.mono ?_;rintro e w7 ⟨hb7,hpost⟩;rcases hpost with ⟨x,hx,-,rfl⟩ | ⟨o,A',c',Am,cm,Ad,cd,Ab,nb,cb2,⟨hok,-,-,-, -⟩,hacc,hlg,hfs,rfl⟩
    ·obtain ⟨W8,g8,hW8,hg8,HSZ8,HA8,HK8,HK9⟩:=box2 w7 53 #[.slice none 0 0,.slice none 0 0,.slice none 0 0,.slice none 0 0] 59 #[.bool false,.int .i64 0,.slice none 0 0,.slice none 0 0,.slice none 0 0];have HW8:=Lib.hid hW8;have hb8:Below X2.heap.size X2 W8:=Xa hb7 (by rw[hg8]; exact HA8.out)
     have HG8:=Lib.hid (HK2.out.below hb8 HK2.out.lt);have HH8:=Lib.hid (HH2.out.below hb8);have HB8:Hid (Below n0 w W8):=HB2.out.trans (hb8.mono HSX.out.2);have d0:(x == 0)=false:=by simpa using hx
     have d1:(x != 0)=true:=by simpa using hx
     clear hb7 hb8 hW8 hx HK2 HH2 HB2 HQ2 HAC HA8;have hl5:=HLEN.out;go_wp2;rw[HW8.out];clear hg8 HW8;go_roundw
     case rel=>exact ⟨n+1,N,LL,VV,l,by omega,by go_num,rfl,HGL.out,HST.out,HLL.out,by have:=HLN.out; omega,HJ.out,HB8.out,HG8.out,HNE.out,HH8.out⟩
     case measure=>simp[intOf]; omega
    ·obtain ⟨v,hv⟩:∃v:Vm,v=⟨o.acc,o.num,Am,o.mv.length,cm,Ad,o.dr.length,cd,Ab,nb,cb2⟩:=⟨_,rfl⟩;have hstep:=Xt8 (v:=v) hacc hok.2.2.1 hok.2.1 HJ.out (by rw[hv]) (by rw[hv])
     have HSTEP:=Lib.hid hstep;have hne0:o.acc=true→o.ts ≠ []:=fun h e=>by
      rcases Xr1 hacc hok.2.2.1 with ⟨h1,_⟩ | h1
      ·rw[h1] at h; cases h
      ·exact h1 e
     obtain ⟨W8,g8,hW8,hg8,HSZ8,HA8,HK8,HK9⟩:=box2 w7 53 (lgA Aq cq Ac cc p A' o.ts.length c') 59 #[.bool o.acc,.int .i64 o.num,.slice Am o.mv.length cm,.slice Ad o.dr.length cd,.slice Ab nb cb2];have hal8:Below w7.heap.size w7 W8:=by rw[hg8]; exact HA8.out
     have hb8:Below X2.heap.size X2 W8:=Xa hb7 hal8;have HG8:=Lib.hid (HK2.out.below hb8 HK2.out.lt);have HH8:=Lib.hid (HH2.out.below hb8);have HQ8:=Lib.hid (HQ2.out.below hb8 HQ2.out.lt);have HB8:Hid (Below n0 w W8):=HB2.out.trans (hb8.mono HSX.out.2);have HL8:Hid (LgAt W8 Aq cq Ac cc p A' c' o.ts):=hlg.below hal8;have HS8:Hid (X2.heap.size≤g8∧W8.heap.size=g8+1+1):=by have:=hb7.size; have:=HSZ8.out; show _∧_; omega
     have HXA:Hid (∀a,A' = some a→u8.ownBlock ≠ some a.block∧u9.ownBlock ≠ some a.block∧a.block<W8.heap.size):=fun a e=>by
      rcases hfs with ⟨h1,h2⟩ | ⟨_,h2⟩
      ·have h3:=h2 a e;have h4:=HSX.out;have h5:=HVB.out;refine ⟨fun h=>by have:=h5.1 _ h; omega,fun h=>by have:=h5.2 _ h; omega,?_⟩
       have h6:0<o.ts.length:=List.length_pos_iff.2 (hne0 h1);obtain ⟨b,off,e2,hr⟩:=HL8.out.t.one h6;obtain ⟨Ah,ch,hr1,_⟩:=hr 0 _ (List.getElem?_eq_getElem h6);rw[e] at e2;cases e2;exact World.block_lt_of_cell? _ _ (hr1 0 _ rfl)
      ·have h3:=HH8.out.ap l HLM.out a (by rw[←h2]; exact e)
       exact h3
     have HSF:Hid (∀w',Bk w' g4 31 (rqA q)→Bk w' g8 53 (lgA Aq cq Ac cc p A' o.ts.length c')→w'.cell? ⟨g4,3,none⟩=some (.int .i64 q.ready)∧w'.cell? ⟨g8,0,none⟩=some (.slice Aq p.q.length cq)∧w'.cell? ⟨g8,1,none⟩=some (.slice Ac p.c.length cc)∧w'.cell? ⟨g8,2,none⟩=some (.slice none 0 0)∧w'.cell? ⟨g8,3,none⟩=some (.slice A' o.ts.length c')):=fun w' h h' => ⟨h.cell 3,h'.cell 0,h'.cell 1,h'.cell 2,h'.cell 3⟩;have HSF2:Hid (∀w',Bk w' g3 53 (lgA Aq cq Ac cc p A' o.ts.length c')→Bk w' (g8+1) 59 #[.bool o.acc,.int .i64 o.num,.slice Am o.mv.length cm,.slice Ad o.dr.length cd,.slice Ab nb cb2] → w'.cell? ⟨g3,0,none⟩=some (.slice Aq p.q.length cq)∧w'.cell? ⟨g3,1,none⟩=some (.slice Ac p.c.length cc)∧w'.cell? ⟨g3,2,none⟩=some (.slice none 0 0)∧w'.cell? ⟨g3,3,none⟩=some (.slice A' o.ts.length c')∧w'.cell? ⟨g8+1,0,none⟩=some (.bool o.acc)∧w'.cell? ⟨g8+1,1,none⟩=some (.int .i64 o.num)∧w'.cell? ⟨g8+1,2,none⟩=some (.slice Am o.mv.length cm)∧w'.cell? ⟨g8+1,3,none⟩=some (.slice Ad o.dr.length cd)∧w'.cell? ⟨g8+1,4,none⟩=some (.slice Ab nb cb2)):=fun w' h h' => ⟨h.cell 0,h.cell 1,h.cell 2,h.cell 3,h'.cell 0,h'.cell 1,h'.cell 2,h'.cell 3,h'.cell 4⟩;clear hb7 hb8 hal8 hlg hacc hok hfs hstep hne0 HK2 HH2 HB2 HQ2 HAC HA8;go_upto_region 13 with fail
     clear hW8 hg8;refine Xam (S:=fun w' => w'.cell? ⟨g4,3,none⟩=some (.int .i64 q.ready)∧w'.cell? ⟨g8,0,none⟩=some (.slice Aq p.q.length cq)∧w'.cell? ⟨g8,1,none⟩=some (.slice Ac p.c.length cc)∧w'.cell? ⟨g8,2,none⟩=some (.slice none 0 0)∧w'.cell? ⟨g8,3,none⟩=some (.slice A' o.ts.length c')) [] (by kernel_rfl) (HSF.out _ HQ8.out HK8.out) (fun hHeld=>?_)
     have hdr:Below W8.heap.size W8 W8.drew:=(Below.refl _ _).drew;have HGD:=Lib.hid (HG8.out.below hdr HG8.out.lt);have HHD:=Lib.hid (HH8.out.below hdr);have HQD:=Lib.hid (HQ8.out.below hdr HQ8.out.lt);have HKD:=Lib.hid (HK8.out.below hdr HK8.out.lt);have HVD:=Lib.hid (HK9.out.below hdr HK9.out.lt);have HLD:=Lib.hid (HL8.out.below hdr);have HBD:Hid (Below n0 w W8.drew):=HB8.out.trans (hdr.mono (by have:=HSX.out; have:=HS8.out; omega))
     have HSD:Hid (W8.heap.size≤W8.drew.heap.size):=hdr.size;clear hdr HG8 HH8 HQ8 HK8 HK9 HB8 HL8;generalize W8.drew=U0 at HGD HHD HQD HKD HVD HBD HSD HLD hHeld ⊢;refine tkF 0 _ ?_;refine tkG 1 (.int .i64 q.ready) ?_;refine tkG 2 (.agg (lgA Aq cq Ac cc p A' o.ts.length c')) ?_;refine tkF 3 _ ?_;obtain ⟨X,hX,hx,hg⟩:=HGD.out.p4 (.slice Aq p.q.length cq) (.slice Ac p.c.length cc) (.slice none 0 0) (.slice A' o.ts.length c');have r0:=HGD.out.c4;have f0:=HGD.out.f4;have HBX:Hid (Below n0 w X):=below_grown HBD.out hg (by have:=HG3.out; omega) (by have:=HSX.out; have:=HS8.out; have:=HSD.out; omega)
     have HHX:=Lib.hid (HHD.out.box (HP.out _ HBX.out) HGD.out hg HNE.out);have HLX:Hid (LgAt X Aq cq Ac cc p A' c' o.ts):=HLD.out.store (HP.out _ HBX.out) HGD.out (Fr.grown hg);have HKX:Hid (Bk X g3 53 (lgA Aq cq Ac cc p A' o.ts.length c')):=hx;have HVX:=Lib.hid (HVD.out.grown hg (by have:=HS8.out; have:=HSX.out; have:=HG4.out; simp; omega))
     have HSX0:=Lib.hid (HSF.out X (HQD.out.grown hg (by have:=HG4.out; simp; omega)) (HKD.out.grown hg (by have:=HS8.out; have:=HSX.out; have:=HG4.out; simp; omega)))
     have HSXX:Hid (W8.heap.size≤X.heap.size):=by have:=HSD.out; have:=hg.size; show _≤_; omega
     clear hx hg;refine Xaa (i:=4) rfl (by kernel_rfl) (by rfl) (fun K hK=>?_)
     go_simp;refine hK _ _ HSX0.out ?_;clear hK K hHeld r0 f0 hX
     try simp only[PU]
     refine Xbd (by kernel_rfl) ?_
     clear HGD HHD HQD HKD HVD HBD HSD HSX0 HSF HLD;go_upto_region 14 with fail
     obtain ⟨i1,hi1,hy0,hy1,hy2⟩:=info_parts infolg;obtain ⟨i2,hi2,hz0,hz1,hz2⟩:=info_parts infovd;refine Xam (S:=fun w' => w'.cell? ⟨g3,0,none⟩=some (.slice Aq p.q.length cq)∧w'.cell? ⟨g3,1,none⟩=some (.slice Ac p.c.length cc)∧w'.cell? ⟨g3,2,none⟩=some (.slice none 0 0)∧w'.cell? ⟨g3,3,none⟩=some (.slice A' o.ts.length c')∧w'.cell? ⟨g8+1,0,none⟩=some (.bool o.acc)∧w'.cell? ⟨g8+1,1,none⟩=some (.int .i64 o.num)∧w'.cell? ⟨g8+1,2,none⟩=some (.slice Am o.mv.length cm)∧w'.cell? ⟨g8+1,3,none⟩=some (.slice Ad o.dr.length cd)∧w'.cell? ⟨g8+1,4,none⟩=some (.slice Ab nb cb2)) [] (by kernel_rfl) (HSF2.out _ HKX.out HVX.out) (fun hHeld=>?_)
     have hdr:Below X.heap.size X X.drew:=(Below.refl _ _).drew;have HH0:=Lib.hid (HHX.out.below hdr);have HK0:=Lib.hid (HKX.out.below hdr HKX.out.lt);have HV0:=Lib.hid (HVX.out.below hdr HVX.out.lt);have HL0:=Lib.hid (HLX.out.below hdr);have HB0:Hid (Below n0 w X.drew):=HBX.out.trans (hdr.mono (by have:=HSX.out; have:=HS8.out; have:=HSXX.out; omega))
     have HU0:Hid (W8.heap.size≤X.drew.heap.size):=by have:=hdr.size; have:=HSXX.out; show _≤_; omega
     clear hdr HHX HKX HVX HBX HSXX HLX;generalize X.drew=U0 at HH0 HK0 HV0 HB0 HU0 HL0 hHeld ⊢;refine tkF 0 _ ?_;refine tkG 1 (.agg (lgA Aq cq Ac cc p A' o.ts.length c')) ?_;refine tkF 4 _ ?_;refine tkG 5 (.agg #[.bool o.acc,.int .i64 o.num,.slice Am o.mv.length cm,.slice Ad o.dr.length cd,.slice Ab nb cb2]) ?_;have hl6:LL.length≤6∧VV.length≤6:=by have:=HLL.out; have:=HLN.out; have:=HLEN.out; omega
     have HBND:Hid (n0≤W8.heap.size∧g3<wr.heap.size∧wr.heap.size≤g8∧g8+1<W8.heap.size):=by have:=HSX.out; have:=HS8.out; have:=HG4.out; show _∧_; omega
     clear hHeld;refine Xe1 (i:=2) (j:=6) rfl rfl (by kernel_rfl) (by rfl) (by rfl) (fun K hK=>?_) (fun K hK=>?_)
     ·obtain ⟨U1,gA,hW,hg,HS1,HA1,HC1⟩:=box1 U0 53 (lgA Aq cq Ac cc p A' o.ts.length c');have hal:Below U0.heap.size U0 U1:=by rw[hg]; exact HA1.out
      have HH1:=Lib.hid (HH0.out.below hal);have HK1:=Lib.hid (HK0.out.below hal HK0.out.lt);have HV1:=Lib.hid (HV0.out.below hal HV0.out.lt);have HL1:=Lib.hid (HL0.out.below hal);have HB1:Hid (Below n0 w U1):=HB0.out.trans (hal.mono (by have:=HU0.out; have:=HBND.out; omega))
      have HU1:Hid (W8.heap.size≤U1.heap.size):=by have:=HU0.out; have:=hal.size; show _≤_; omega
      have HEA:Hid (Bk U1 gA 53 (lgA Aq cq Ac cc p A' o.ts.length c')∧W8.heap.size≤gA):=⟨HC1.out,by have:=HU0.out; omega⟩
      go_simp;refine hK _ _ (HSF2.out _ HK1.out HV1.out) ?_;clear hK K hal hW hg HA1 HC1
      try simp only[PU]
      refine Xe1 (i:=3) (j:=6) rfl rfl (by kernel_rfl) (by rfl) (by rfl) (fun K hK=>?_) (fun K hK=>?_)
      ·refine Xaq (lmE Aq cq Ac cc p) (.tmp 57) (.tmp 59) 47 53 rfl n0 i1 (.agg #[.slice none 0 0,.slice none 0 0,.slice none 0 0,.slice none 0 0]) 96 Tryz.underlying47 hi1 hy0 hy1 hy2 rfl (by show 0<4; decide) u8 LL.length (LL.flatMap (lmE Aq cq Ac cc p).f) rfl HH1.out.ro (some ⟨gA,0,none⟩) [(⟨A',c',o.ts⟩:Lm)] 1 rfl (Xbr (t:=53) (L := [(⟨A',c',o.ts⟩:Lm)]) HEA.out.1) (by simp; unfold maxLen; omega) (by simp; omega) (by have:=HU1.out; have:=HBND.out; omega) (fun va U2 h1 h2 h3=>?_)
       have HB2:Hid (Below n0 w U2):=HB1.out.grown h2 (by have:=HU1.out; have:=HBND.out; omega) (fun r e=>(HH1.out.ro.lt r e).1)
       have HH2:=Lib.hid (HH1.out.addL (x:=(⟨A',c',o.ts⟩:Lm)) (HP.out _ HB2.out) h1 h2 h3 HL1.out (fun a e=>by have h4:=HXA.out a e; have:=HU1.out; exact ⟨h4.1,h4.2.1,by omega⟩))
       have HK2:=Lib.hid (HK1.out.grown h2 (fun e=>HNE.out e.symm));have HV2:=Lib.hid (HV1.out.grown h2 (Xa1 HV1.out (by decide) HH1.out.ro))
       have HNA:Hid (va.ownBlock ≠ some g3):=by
        rcases h3 with h | h
        ·show _ ≠ _; rw[h]; exact HNE.out
        ·show _ ≠ _; rw[h]; have:=HU1.out; have:=HBND.out; simp; omega
       have HL2:Hid (LgAt U2 Aq cq Ac cc p A' c' o.ts):=HH2.out.lg (⟨A',c',o.ts⟩:Lm) (by simp)
       have HU2:Hid (W8.heap.size≤U2.heap.size):=by have:=HU1.out; have:=h2.size; show _≤_; omega
       refine hK _ _ (HSF2.out _ HK2.out HV2.out) ?_;clear hK K h1 h2 h3
       try simp only[PU]
       obtain ⟨U3,gV,hW,hg,HS3,HA3,HC3⟩:=box1 U2 59 #[.bool o.acc,.int .i64 o.num,.slice Am o.mv.length cm,.slice Ad o.dr.length cd,.slice Ab nb cb2];have hal:Below U2.heap.size U2 U3:=by rw[hg]; exact HA3.out
       have HH3:=Lib.hid (HH2.out.below hal);have HK3:=Lib.hid (HK2.out.below hal HK2.out.lt);have HV3:=Lib.hid (HV2.out.below hal HV2.out.lt);have HL3:=Lib.hid (HL2.out.below hal);have HB3:Hid (Below n0 w U3):=HB2.out.trans (hal.mono (by have:=HU2.out; have:=HBND.out; omega))
       have HU3:Hid (W8.heap.size≤U3.heap.size):=by have:=HU2.out; have:=hal.size; show _≤_; omega
       have HEV:Hid (Bk U3 gV 59 #[.bool o.acc,.int .i64 o.num,.slice Am o.mv.length cm,.slice Ad o.dr.length cd,.slice Ab nb cb2] ∧ W8.heap.size≤gV):=⟨HC3.out,by have:=HU2.out; omega⟩
       refine Xaa (i:=6) rfl (by kernel_rfl) (by rfl) (fun K hK=>?_)
       go_simp;refine hK _ _ (HSF2.out _ HK3.out HV3.out) ?_;clear hK K hal hW hg HA3 HC3
       try simp only[PU]
       refine Xaa (i:=7) rfl (by kernel_rfl) (by rfl) (fun K hK=>?_)
       refine Xaq vmE (.tmp 61) (.tmp 63) 48 59 rfl n0 i2 (.agg #[.bool false,.int .i64 0,.slice none 0 0,.slice none 0 0,.slice none 0 0]) 88 Tryz.underlying48 hi2 hz0 hz1 hz2 rfl (by show 0<5; decide) u9 VV.length (VV.flatMap vmE.f) rfl HH3.out.rv (some ⟨gV,0,none⟩) [v] 1 rfl (Xbr (t:=59) (L := [v]) (by rw[hv]; exact HEV.out.1)) (by simp; unfold maxLen; omega) (by simp; omega) (by have:=HU3.out; have:=HBND.out; omega) (fun vb U4 h1 h2 h3=>?_)
       have HB4:Hid (Below n0 w U4):=HB3.out.grown h2 (by have:=HU3.out; have:=HBND.out; omega) (fun r e=>(HH3.out.rv.lt r e).1)
       have HH4:=Lib.hid (HH3.out.addV (HP.out _ HB4.out) h1 h2 h3);have HK4:=Lib.hid (HK3.out.grown h2 (Xa1 HK3.out (by decide) HH3.out.rv))
       have HV4:=Lib.hid (HV3.out.grown h2 (fun e=>by have:=HVB.out.2 _ e.symm; have:=HBND.out; omega))
       have HU4:Hid (W8.heap.size≤U4.heap.size):=by have:=HU3.out; have:=h2.size; show _≤_; omega
       refine hK _ _ (HSF2.out _ HK4.out HV4.out) ?_;clear hK K h1 h2 h3
       try simp only[PU]
       have hHeld:(fun w' => w'.cell? ⟨g3,0,none⟩=some (.slice Aq p.q.length cq)∧w'.cell? ⟨g3,1,none⟩=some (.slice Ac p.c.length cc)∧w'.cell? ⟨g3,2,none⟩=some (.slice none 0 0)∧w'.cell? ⟨g3,3,none⟩=some (.slice A' o.ts.length c')∧w'.cell? ⟨g8+1,0,none⟩=some (.bool o.acc)∧w'.cell? ⟨g8+1,1,none⟩=some (.int .i64 o.num)∧w'.cell? ⟨g8+1,2,none⟩=some (.slice Am o.mv.length cm)∧w'.cell? ⟨g8+1,3,none⟩=some (.slice Ad o.dr.length cd)∧w'.cell? ⟨g8+1,4,none⟩=some (.slice Ab nb cb2)) U4:=HSF2.out _ HK4.out HV4.out;refine tkF 8 _ ?_;refine tkF 9 _ ?_;clear hHeld;refine Xbd (by kernel_rfl) ?_
       have hl5:=HLEN.out;go_wp2;go_roundw
       case rel=>exact ⟨n+1,q.ready,LL ++ [(⟨A',c',o.ts⟩:Lm)],VV ++ [v],(⟨A',c',o.ts⟩:Lm),by omega,by go_num,rfl,by simp,HST.out.snoc HGL.out HLL.out HSTEP.out.1,by have:=HLL.out; simp; omega,by have:=HLN.out; simp; omega,HSTEP.out.2,HB4.out,HK4.out,HNA.out,HH4.out⟩
       case measure=>simp[intOf]; omega
      ·obtain ⟨U2,gV,hW,hg,HS2,HA2,HC2⟩:=box1 U1 59 #[.bool o.acc,.int .i64 o.num,.slice Am o.mv.length cm,.slice Ad o.dr.length cd,.slice Ab nb cb2];have hal:Below U1.heap.size U1 U2:=by rw[hg]; exact HA2.out
       have HH2:=Lib.hid (HH1.out.below hal);have HK2:=Lib.hid (HK1.out.below hal HK1.out.lt);have HV2:=Lib.hid (HV1.out.below hal HV1.out.lt);have HL2:=Lib.hid (HL1.out.below hal);have HB2:Hid (Below n0 w U2):=HB1.out.trans (hal.mono (by have:=HU1.out; have:=HBND.out; omega))
       have HU2:Hid (W8.heap.size≤U2.heap.size):=by have:=HU1.out; have:=hal.size; show _≤_; omega
       have HEV:Hid (Bk U2 gV 59 #[.bool o.acc,.int .i64 o.num,.slice Am o.mv.length cm,.slice Ad o.dr.length cd,.slice Ab nb cb2] ∧ W8.heap.size≤gV):=⟨HC2.out,by have:=HU1.out; omega⟩
       have HEA:Hid (Bk U2 gA 53 (lgA Aq cq Ac cc p A' o.ts.length c')∧W8.heap.size≤gA):=⟨HEA.out.1.below hal HEA.out.1.lt,HEA.out.2⟩;go_simp;refine hK _ _ (HSF2.out _ HK2.out HV2.out) ?_;clear hK K hal hW hg HA2 HC2
       try simp only[PU]
       refine Xaa (i:=3) rfl (by kernel_rfl) (by rfl) (fun K hK=>?_)
       refine Xaq (lmE Aq cq Ac cc p) (.tmp 57) (.tmp 59) 47 53 rfl n0 i1 (.agg #[.slice none 0 0,.slice none 0 0,.slice none 0 0,.slice none 0 0]) 96 Tryz.underlying47 hi1 hy0 hy1 hy2 rfl (by show 0<4; decide) u8 LL.length (LL.flatMap (lmE Aq cq Ac cc p).f) rfl HH2.out.ro (some ⟨gA,0,none⟩) [(⟨A',c',o.ts⟩:Lm)] 1 rfl (Xbr (t:=53) (L := [(⟨A',c',o.ts⟩:Lm)]) HEA.out.1) (by simp; unfold maxLen; omega) (by simp; omega) (by have:=HU2.out; have:=HBND.out; omega) (fun va U3 h1 h2 h3=>?_)
       have HB3:Hid (Below n0 w U3):=HB2.out.grown h2 (by have:=HU2.out; have:=HBND.out; omega) (fun r e=>(HH2.out.ro.lt r e).1)
       have HH3:=Lib.hid (HH2.out.addL (x:=(⟨A',c',o.ts⟩:Lm)) (HP.out _ HB3.out) h1 h2 h3 HL2.out (fun a e=>by have h4:=HXA.out a e; have:=HU2.out; exact ⟨h4.1,h4.2.1,by omega⟩))
       have HK3:=Lib.hid (HK2.out.grown h2 (fun e=>HNE.out e.symm));have HV3:=Lib.hid (HV2.out.grown h2 (Xa1 HV2.out (by decide) HH2.out.ro))
       have HNA:Hid (va.ownBlock ≠ some g3):=by
        rcases h3 with h | h
        ·show _ ≠ _; rw[h]; exact HNE.out
        ·show _ ≠ _; rw[h]; have:=HU2.out; have:=HBND.out; simp; omega
       have HEV:Hid (Bk U3 gV 59 #[.bool o.acc,.int .i64 o.num,.slice Am o.mv.length cm,.slice Ad o.dr.length cd,.slice Ab nb cb2] ∧ W8.heap.size≤gV):=⟨HEV.out.1.grown h2 (Xa1 HEV.out.1 (by decide) HH2.out.ro),HEV.out.2⟩
       have HL3:Hid (LgAt U3 Aq cq Ac cc p A' c' o.ts):=HH3.out.lg (⟨A',c',o.ts⟩:Lm) (by simp)
       have HU3:Hid (W8.heap.size≤U3.heap.size):=by have:=HU2.out; have:=h2.size; show _≤_; omega
       refine hK _ _ (HSF2.out _ HK3.out HV3.out) ?_;clear hK K h1 h2 h3
       try simp only[PU]
       refine Xaa (i:=7) rfl (by kernel_rfl) (by rfl) (fun K hK=>?_)
       refine Xaq vmE (.tmp 61) (.tmp 63) 48 59 rfl n0 i2 (.agg #[.bool false,.int .i64 0,.slice none 0 0,.slice none 0 0,.slice none 0 0]) 88 Tryz.underlying48 hi2 hz0 hz1 hz2 rfl (by show 0<5; decide) u9 VV.length (VV.flatMap vmE.f) rfl HH3.out.rv (some ⟨gV,0,none⟩) [v] 1 rfl (Xbr (t:=59) (L := [v]) (by rw[hv]; exact HEV.out.1)) (by simp; unfold maxLen; omega) (by simp; omega) (by have:=HU3.out; have:=HBND.out; omega) (fun vb U4 h1 h2 h3=>?_)
       have HB4:Hid (Below n0 w U4):=HB3.out.grown h2 (by have:=HU3.out; have:=HBND.out; omega) (fun r e=>(HH3.out.rv.lt r e).1)
       have HH4:=Lib.hid (HH3.out.addV (HP.out _ HB4.out) h1 h2 h3);have HK4:=Lib.hid (HK3.out.grown h2 (Xa1 HK3.out (by decide) HH3.out.rv))
       have HV4:=Lib.hid (HV3.out.grown h2 (fun e=>by have:=HVB.out.2 _ e.symm; have:=HBND.out; omega))
       have HU4:Hid (W8.heap.size≤U4.heap.size):=by have:=HU3.out; have:=h2.size; show _≤_; omega
       refine hK _ _ (HSF2.out _ HK4.out HV4.out) ?_;clear hK K h1 h2 h3
       try simp only[PU]
       have hHeld:(fun w' => w'.cell? ⟨g3,0,none⟩=some (.slice Aq p.q.length cq)∧w'.cell? ⟨g3,1,none⟩=some (.slice Ac p.c.length cc)∧w'.cell? ⟨g3,2,none⟩=some (.slice none 0 0)∧w'.cell? ⟨g3,3,none⟩=some (.slice A' o.ts.length c')∧w'.cell? ⟨g8+1,0,none⟩=some (.bool o.acc)∧w'.cell? ⟨g8+1,1,none⟩=some (.int .i64 o.num)∧w'.cell? ⟨g8+1,2,none⟩=some (.slice Am o.mv.length cm)∧w'.cell? ⟨g8+1,3,none⟩=some (.slice Ad o.dr.length cd)∧w'.cell? ⟨g8+1,4,none⟩=some (.slice Ab nb cb2)) U4:=HSF2.out _ HK4.out HV4.out;refine tkF 8 _ ?_;refine tkF 9 _ ?_;clear hHeld;refine Xbd (by kernel_rfl) ?_
       have hl5:=HLEN.out;go_wp2;go_roundw
       case rel=>exact ⟨n+1,q.ready,LL ++ [(⟨A',c',o.ts⟩:Lm)],VV ++ [v],(⟨A',c',o.ts⟩:Lm),by omega,by go_num,rfl,by simp,HST.out.snoc HGL.out HLL.out HSTEP.out.1,by have:=HLL.out; simp; omega,by have:=HLN.out; simp; omega,HSTEP.out.2,HB4.out,HK4.out,HNA.out,HH4.out⟩
       case measure=>simp[intOf]; omega
     ·obtain ⟨U1,gV,hW,hg,HS1,HA1,HC1⟩:=box1 U0 59 #[.bool o.acc,.int .i64 o.num,.slice Am o.mv.length cm,.slice Ad o.dr.length cd,.slice Ab nb cb2];have hal:Below U0.heap.size U0 U1:=by rw[hg]; exact HA1.out
      have HH1:=Lib.hid (HH0.out.below hal);have HK1:=Lib.hid (HK0.out.below hal HK0.out.lt);have HV1:=Lib.hid (HV0.out.below hal HV0.out.lt);have HL1:=Lib.hid (HL0.out.below hal);have HB1:Hid (Below n0 w U1):=HB0.out.trans (hal.mono (by have:=HU0.out; have:=HBND.out; omega))
      have HU1:Hid (W8.heap.size≤U1.heap.size):=by have:=HU0.out; have:=hal.size; show _≤_; omega
      have HEV:Hid (Bk U1 gV 59 #[.bool o.acc,.int .i64 o.num,.slice Am o.mv.length cm,.slice Ad o.dr.length cd,.slice Ab nb cb2] ∧ W8.heap.size≤gV):=⟨HC1.out,by have:=HU0.out; omega⟩
      go_simp;refine hK _ _ (HSF2.out _ HK1.out HV1.out) ?_;clear hK K hal hW hg HA1 HC1
      try simp only[PU]
      obtain ⟨U2,gA,hW,hg,HS2,HA2,HC2⟩:=box1 U1 53 (lgA Aq cq Ac cc p A' o.ts.length c');have hal:Below U1.heap.size U1 U2:=by rw[hg]; exact HA2.out
      have HH2:=Lib.hid (HH1.out.below hal);have HK2:=Lib.hid (HK1.out.below hal HK1.out.lt);have HV2:=Lib.hid (HV1.out.below hal HV1.out.lt);have HL2:=Lib.hid (HL1.out.below hal);have HB2:Hid (Below n0 w U2):=HB1.out.trans (hal.mono (by have:=HU1.out; have:=HBND.out; omega))
      have HU2:Hid (W8.heap.size≤U2.heap.size):=by have:=HU1.out; have:=hal.size; show _≤_; omega
      have HEA:Hid (Bk U2 gA 53 (lgA Aq cq Ac cc p A' o.ts.length c')∧W8.heap.size≤gA):=⟨HC2.out,by have:=HU1.out; omega⟩
      have HEV:Hid (Bk U2 gV 59 #[.bool o.acc,.int .i64 o.num,.slice Am o.mv.length cm,.slice Ad o.dr.length cd,.slice Ab nb cb2] ∧ W8.heap.size≤gV):=⟨HEV.out.1.below hal HEV.out.1.lt,HEV.out.2⟩;refine Xaa (i:=2) rfl (by kernel_rfl) (by rfl) (fun K hK=>?_)
      go_simp;refine hK _ _ (HSF2.out _ HK2.out HV2.out) ?_;clear hK K hal hW hg HA2 HC2
      try simp only[PU]
      refine Xaa (i:=3) rfl (by kernel_rfl) (by rfl) (fun K hK=>?_)
      refine Xaq (lmE Aq cq Ac cc p) (.tmp 57) (.tmp 59) 47 53 rfl n0 i1 (.agg #[.slice none 0 0,.slice none 0 0,.slice none 0 0,.slice none 0 0]) 96 Tryz.underlying47 hi1 hy0 hy1 hy2 rfl (by show 0<4; decide) u8 LL.length (LL.flatMap (lmE Aq cq Ac cc p).f) rfl HH2.out.ro (some ⟨gA,0,none⟩) [(⟨A',c',o.ts⟩:Lm)] 1 rfl (Xbr (t:=53) (L := [(⟨A',c',o.ts⟩:Lm)]) HEA.out.1) (by simp; unfold maxLen; omega) (by simp; omega) (by have:=HU2.out; have:=HBND.out; omega) (fun va U3 h1 h2 h3=>?_)
      have HB3:Hid (Below n0 w U3):=HB2.out.grown h2 (by have:=HU2.out; have:=HBND.out; omega) (fun r e=>(HH2.out.ro.lt r e).1)
      have HH3:=Lib.hid (HH2.out.addL (x:=(⟨A',c',o.ts⟩:Lm)) (HP.out _ HB3.out) h1 h2 h3 HL2.out (fun a e=>by have h4:=HXA.out a e; have:=HU2.out; exact ⟨h4.1,h4.2.1,by omega⟩))
      have HK3:=Lib.hid (HK2.out.grown h2 (fun e=>HNE.out e.symm));have HV3:=Lib.hid (HV2.out.grown h2 (Xa1 HV2.out (by decide) HH2.out.ro))
      have HNA:Hid (va.ownBlock ≠ some g3):=by
       rcases h3 with h | h
       ·show _ ≠ _; rw[h]; exact HNE.out
       ·show _ ≠ _; rw[h]; have:=HU2.out; have:=HBND.out; simp; omega
      have HEV:Hid (Bk U3 gV 59 #[.bool o.acc,.int .i64 o.num,.slice Am o.mv.length cm,.slice Ad o.dr.length cd,.slice Ab nb cb2] ∧ W8.heap.size≤gV):=⟨HEV.out.1.grown h2 (Xa1 HEV.out.1 (by decide) HH2.out.ro),HEV.out.2⟩
      have HL3:Hid (LgAt U3 Aq cq Ac cc p A' c' o.ts):=HH3.out.lg (⟨A',c',o.ts⟩:Lm) (by simp)
      have HU3:Hid (W8.heap.size≤U3.heap.size):=by have:=HU2.out; have:=h2.size; show _≤_; omega
      refine hK _ _ (HSF2.out _ HK3.out HV3.out) ?_;clear hK K h1 h2 h3
      try simp only[PU]
      refine Xaa (i:=7) rfl (by kernel_rfl) (by rfl) (fun K hK=>?_)
      refine Xaq vmE (.tmp 61) (.tmp 63) 48 59 rfl n0 i2 (.agg #[.bool false,.int .i64 0,.slice none 0 0,.slice none 0 0,.slice none 0 0]) 88 Tryz.underlying48 hi2 hz0 hz1 hz2 rfl (by show 0<5; decide) u9 VV.length (VV.flatMap vmE.f) rfl HH3.out.rv (some ⟨gV,0,none⟩) [v] 1 rfl (Xbr (t:=59) (L := [v]) (by rw[hv]; exact HEV.out.1)) (by simp; unfold maxLen; omega) (by simp; omega) (by have:=HU3.out; have:=HBND.out; omega) (fun vb U4 h1 h2 h3=>?_)
      have HB4:Hid (Below n0 w U4):=HB3.out.grown h2 (by have:=HU3.out; have:=HBND.out; omega) (fun r e=>(HH3.out.rv.lt r e).1)
      have HH4:=Lib.hid (HH3.out.addV (HP.out _ HB4.out) h1 h2 h3);have HK4:=Lib.hid (HK3.out.grown h2 (Xa1 HK3.out (by decide) HH3.out.rv))
      have HV4:=Lib.hid (HV3.out.grown h2 (fun e=>by have:=HVB.out.2 _ e.symm; have:=HBND.out; omega))
      have HU4:Hid (W8.heap.size≤U4.heap.size):=by have:=HU3.out; have:=h2.size; show _≤_; omega
      refine hK _ _ (HSF2.out _ HK4.out HV4.out) ?_;clear hK K h1 h2 h3
      try simp only[PU]
      have hHeld:(fun w' => w'.cell? ⟨g3,0,none⟩=some (.slice Aq p.q.length cq)∧w'.cell? ⟨g3,1,none⟩=some (.slice Ac p.c.length cc)∧w'.cell? ⟨g3,2,none⟩=some (.slice none 0 0)∧w'.cell? ⟨g3,3,none⟩=some (.slice A' o.ts.length c')∧w'.cell? ⟨g8+1,0,none⟩=some (.bool o.acc)∧w'.cell? ⟨g8+1,1,none⟩=some (.int .i64 o.num)∧w'.cell? ⟨g8+1,2,none⟩=some (.slice Am o.mv.length cm)∧w'.cell? ⟨g8+1,3,none⟩=some (.slice Ad o.dr.length cd)∧w'.cell? ⟨g8+1,4,none⟩=some (.slice Ab nb cb2)) U4:=HSF2.out _ HK4.out HV4.out;refine tkF 8 _ ?_;refine tkF 9 _ ?_;clear hHeld;refine Xbd (by kernel_rfl) ?_
      have hl5:=HLEN.out;go_wp2;go_roundw
      case rel=>exact ⟨n+1,q.ready,LL ++ [(⟨A',c',o.ts⟩:Lm)],VV ++ [v],(⟨A',c',o.ts⟩:Lm),by omega,by go_num,rfl,by simp,HST.out.snoc HGL.out HLL.out HSTEP.out.1,by have:=HLL.out; simp; omega,by have:=HLN.out; simp; omega,HSTEP.out.2,HB4.out,HK4.out,HNA.out,HH4.out⟩
      case measure=>simp[intOf]; omega
   ·have hn1:decide ((n:Int)<(rs.length:Int))=false:=by simpa using hlt
    obtain ⟨Ao,co,e1,hs1,_,_⟩:=Xab (E:=lmE Aq cq Ac cc p) HHR.out.ro;obtain ⟨Av,cv,e2,hs2,_,_⟩:=Xab (E:=vmE) HHR.out.rv;subst e1 e2;have HS1:=Lib.hid hs1;have HS2:=Lib.hid hs2;clear hs1 hs2;go_wp2;exact bodyPost_ret (v:=.tuple #[.slice Ao LL.length co,.slice Av VV.length cv]) (by simp[results,Tryz.results16,go_sem]) rfl ⟨by rw[hn]; exact HBR.out,Ao,co,LL,Av,cv,VV,rfl,HST.out,by have:=HLN.out; have:=HLEN.out; omega,HS1.out,HS2.out,HHR.out.lg⟩
 ·obtain ⟨W3,g3,hW3,hg3,HSZ3,HA3,HK3⟩:=box1 w2 53 #[.slice none 0 0,.slice none 0 0,.slice none 0 0,.slice none 0 0];have HW3:=Lib.hid hW3;have HB3:Hid (Below n0 w W3):=HB2.out.trans (HA3.out.mono (by have:=HN2.out; omega))
  have d0:(x == 0)=false:=by simpa using hx
  clear hW3 hx HA3;go_wp2;rw[HW3.out];exact bodyPost_ret (v:=.tuple #[.slice none 0 0,.slice none 0 0]) (by simp[results,Tryz.results16,go_sem]) rfl ⟨by rw[hn]; exact HB3.out,none,0, [],none,0, [],rfl,⟨Nat.zero_le _,fun i a b v h=>by simp at h⟩,by simp,SlAt.nil _ _,SlAt.nil _ _,fun x hx=>by simp at hx⟩
end Go.Proofs.YtebkgbmijocdjaaGreat.Tp
