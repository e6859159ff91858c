/- A part of the proof for the ledger. No condition beyond those that each theorem states. -/
import Derived.Test.YtebkgbmijocdjaaGreatZ03
set_option maxHeartbeats 32000000
set_option maxRecDepth 100000
set_option linter.unusedVariables false
set_option linter.unusedSimpArgs false
namespace Go.Proofs.YtebkgbmijocdjaaGreat.Tp
open Go Go.RowKit
theorem Xc8 {w w4:World}(h:w=w4):Below w.heap.size w w4:=by rw[←h]; exact Below.refl _ _
theorem Xto {W w':World}{o:Obj}(h:Hid (Below W.heap.size W w')):Below W.heap.size W (w'.alloc o):=h.out.alloc h.out.size o
def cmpI (a b:Int):Int:=if a<b then -1 else if b<a then 1 else 0
theorem Xle (a:Int)(w:World):Calls Tryz.prog 146 #[.int .i64 a] w fun e w' => e = .returned (.bool false)∧w=w':=by
 go_enter Tryz.func146,Tryz.ntmps146;go_wp2;go_ret;exact ⟨Xe0 (by simp),rfl⟩
theorem Xbq (a b:Int)(w:World):Calls Tryz.prog 84 #[.int .i64 a,.int .i64 b] w fun e w' => e = .returned (.int .i64 (cmpI a b))∧w=w':=by
 have H1:=Lib.hid (fun w=>Xle a w);have H2:=Lib.hid (fun w=>Xle b w);have HC:Hid (cmpI a b=if a<b then -1 else if b<a then 1 else 0):=rfl
 generalize cmpI a b=c at HC ⊢
 by_cases h1:a<b
 ·have HF:Hid (-1=c):=by show _=_; rw[HC.out,if_pos h1]
  clear HC;go_enter Tryz.func84,Tryz.ntmps84;go_wp2_with fail;refine (H1.out _).mono ?_;rintro e w1 ⟨rfl,rfl⟩;go_wp2_with fail;refine (H2.out _).mono ?_;rintro e w1 ⟨rfl,rfl⟩;go_wp2;go_ret;exact ⟨Xh2 HF.out,rfl⟩
 ·by_cases h2:b<a
  ·have HF:Hid (1=c):=by show _=_; rw[HC.out,if_neg h1,if_pos h2]
   clear HC;go_enter Tryz.func84,Tryz.ntmps84;go_wp2_with fail;refine (H1.out _).mono ?_;rintro e w1 ⟨rfl,rfl⟩;go_wp2_with fail;refine (H2.out _).mono ?_;rintro e w1 ⟨rfl,rfl⟩;go_wp2;go_ret;exact ⟨Xh2 HF.out,rfl⟩
  ·have HF:Hid (0=c):=by show _=_; rw[HC.out,if_neg h1,if_neg h2]
   clear HC;go_enter Tryz.func84,Tryz.ntmps84;go_wp2_with fail;refine (H1.out _).mono ?_;rintro e w1 ⟨rfl,rfl⟩;go_wp2_with fail;refine (H2.out _).mono ?_;rintro e w1 ⟨rfl,rfl⟩;go_wp2;go_ret;exact ⟨Xh2 HF.out,rfl⟩
def orL:List Int→Int
 | [] => 0
 | a :: l=>if a=0 then orL l else a
theorem Xje:∀ {l:List Int}{k:Nat},(∀x ∈ l.take k,x=0)→orL l=orL (l.drop k)
 | [],k,_=>by simp
 | a :: l,0,_=>rfl
 | a :: l,k+1,h=>by
   have h0:a=0:=h a (by simp)
   have ih:=Xje (l:=l) (k:=k) (fun x hx=>h x (by simp[hx]))
   rw[orL,if_pos h0,ih]
   rfl
theorem Xh4 (b n:Nat)(l:List Int)(w:World)(hn:n=l.length)(hl:l.length≤100)(hc:∀k x,l[k]? = some x→w.cell? ⟨b,k,none⟩=some (.int .i64 x)) :
  Calls Tryz.prog 83 #[.slice (some ⟨b,0,none⟩) n n] w fun e w' => e = .returned (.int .i64 (orL l))∧w=w':=by
 subst hn;have HC:=Lib.hid hc;clear hc;go_enter Tryz.func83,Tryz.ntmps83;go_wp2;go_loop [5,8] (fun _ i => ∃k:Nat,k≤l.length∧i = .int .i64 k ∧ ∀x ∈ l.take k,x=0) (fun _ i=>l.length - (intOf i).toNat)
 case atStart=>exact ⟨0,Nat.zero_le _,rfl,by simp⟩
 case round =>
  obtain ⟨k,hk,rfl,hz⟩:=hrel;have HZ:=Lib.hid hz;clear hz
  by_cases hlt:k<l.length
  ·obtain ⟨x,hx⟩:∃x,l[k]? = some x:=⟨_,List.getElem?_eq_getElem hlt⟩;have c0:=HC.out k x hx;have HX:=Lib.hid hx;have HO:Hid (orL l=orL (l.drop k)):=Xje HZ.out;clear hx
   by_cases h0:x=0
   ·subst h0;have HN:Hid (∀x ∈ l.take (k+1),x=0):=by
     intro y hy;rw[take_snoc HX.out] at hy;rcases List.mem_append.1 hy with h | h
     ·exact HZ.out y h
     ·exact List.mem_singleton.1 h
    go_wp2;go_round
    case rel=>exact ⟨k+1,by omega,by go_num,HN.out⟩
    case measure=>simp[intOf]; omega
   ·have hb:(x != 0)=true:=by rw[bne_iff_ne]; exact h0
    have HF:Hid (x=orL l):=by
     show x=_;obtain ⟨hl2,he⟩:=List.getElem?_eq_some_iff.1 HX.out;rw[HO.out,List.drop_eq_getElem_cons hl2,he,orL,if_neg h0]
    clear h0;go_wp2;go_ret;exact ⟨Xh2 HF.out,rfl⟩
  ·have HF:Hid (0=orL l):=by
    show 0=_;rw[Xje (l:=l) (k:=k) HZ.out,List.drop_eq_nil_of_le (by omega)]
    rfl
   go_wp2;go_ret;exact ⟨Xh2 HF.out,rfl⟩
theorem Xdn (w:World)(l:List Int)(t:TypeId):∀(k:Nat)(x:Int),l[k]? = some x→(w.alloc (.cells (l.map fun n=>Value.int .i64 n).toArray t)).cell? ⟨w.heap.size,k,none⟩=some (.int .i64 x):=by
 intro k x hk;rw[World.cell?_alloc_new];simp[hk]
def bkC (a b:Bkg):Int:=orL [cmpI a.ct b.ct,cmpI a.beg b.beg]
theorem Xk3 (a b:Bkg)(w:World):Calls Tryz.prog 143 #[.agg #[.int .i64 a.ct,.int .i64 a.beg,.int .i64 a.fin,.int .i64 a.tick],.agg #[.int .i64 b.ct,.int .i64 b.beg,.int .i64 b.fin,.int .i64 b.tick]] w fun e w' => e = .returned (.int .i64 (bkC a b))∧Below w.heap.size w w':=by
 have HB0:Hid (Below w.heap.size w ((w.alloc (.cells (bkA a) 95)).alloc (.cells (bkA b) 95))):=((Below.refl _ _).alloc (Nat.le_refl _) _).alloc (by simp) _
 have HK:=Lib.hid ((Bk.new w 95 (bkA a)).alloc (.cells (bkA b) 95));have HL:Hid (Bk ((w.alloc (.cells (bkA a) 95)).alloc (.cells (bkA b) 95)) (w.heap.size+1) 95 (bkA b)):=by
  have h:=Bk.new (w.alloc (.cells (bkA a) 95)) 95 (bkA b)
  rwa [World.size_alloc] at h
 go_enter Tryz.func143,Tryz.ntmps143;go_wp2_with fail;generalize (w.alloc (.cells (bkA a) 95)).alloc (.cells (bkA b) 95)=W at HB0 HK HL ⊢;generalize w.heap.size=g at HK HL ⊢;have HD:Hid (∀w',Below W.heap.size W w' → (w'.cell? ⟨g,0,none⟩=some (.int .i64 a.ct)∧w'.cell? ⟨g,1,none⟩=some (.int .i64 a.beg))∧w'.cell? ⟨g+1,0,none⟩=some (.int .i64 b.ct)∧w'.cell? ⟨g+1,1,none⟩=some (.int .i64 b.beg)):=fun w' hb=>by
  have h1:=HK.out.below hb HK.out.lt;have h2:=HL.out.below hb HL.out.lt;exact ⟨⟨h1.cell 0,h1.cell 1⟩,h2.cell 0,h2.cell 1⟩
 go_region_held3 (fun w' => ((w'.cell? ⟨g,0,none⟩=some (.int .i64 a.ct)∧w'.cell? ⟨g,1,none⟩=some (.int .i64 a.beg))∧w'.cell? ⟨g+1,0,none⟩=some (.int .i64 b.ct)∧w'.cell? ⟨g+1,1,none⟩=some (.int .i64 b.beg))∧Hid (Below W.heap.size W w')) (((try go_split_ands); first | exact Xa7 HD (Below.refl _ _).drew | exact Xaw HD (by assumption) hb4 | exact Xa7 HD (Xto (by assumption))))
  ((first
    | (go_at_call 84
       refine (Xbq _ _ _).mono ?_;rintro e w4 ⟨rfl,hw4⟩;have hb4:=Xc8 hw4;clear hw4)
    | (go_at_call 83
       refine (Xh4 _ _ [cmpI a.ct b.ct,cmpI a.beg b.beg] _ rfl (by simp) ?_).mono ?_
       ·exact Xdn _ [cmpI a.ct b.ct,cmpI a.beg b.beg] _
       rintro e w4 ⟨rfl,hw4⟩;have hb4:=Xc8 hw4;clear hw4)))
 have HBF:Hid (Below W.heap.size W w4):=by (try go_split_ands); assumption
 go_wp2;go_ret;exact ⟨rfl,Xa HB0.out HBF.out⟩
def hdC (a b:Hld):Int:=orL [cmpI a.node b.node,cmpI a.frm b.frm,cmpI a.til b.til,cmpI a.tick b.tick,cmpI a.size b.size]
theorem Xfp (a b:Hld)(w:World):Calls Tryz.prog 94 #[.agg #[.int .i64 a.node,.int .i64 a.frm,.int .i64 a.til,.int .i64 a.size,.int .i64 a.tick],.agg #[.int .i64 b.node,.int .i64 b.frm,.int .i64 b.til,.int .i64 b.size,.int .i64 b.tick]] w fun e w' => e = .returned (.int .i64 (hdC a b))∧Below w.heap.size w w':=by
 have HB0:Hid (Below w.heap.size w ((w.alloc (.cells (hdA a) 99)).alloc (.cells (hdA b) 99))):=((Below.refl _ _).alloc (Nat.le_refl _) _).alloc (by simp) _
 have HK:=Lib.hid ((Bk.new w 99 (hdA a)).alloc (.cells (hdA b) 99));have HL:Hid (Bk ((w.alloc (.cells (hdA a) 99)).alloc (.cells (hdA b) 99)) (w.heap.size+1) 99 (hdA b)):=by
  have h:=Bk.new (w.alloc (.cells (hdA a) 99)) 99 (hdA b)
  rwa [World.size_alloc] at h
 go_enter Tryz.func94,Tryz.ntmps94;go_wp2_with fail;generalize (w.alloc (.cells (hdA a) 99)).alloc (.cells (hdA b) 99)=W at HB0 HK HL ⊢;generalize w.heap.size=g at HK HL ⊢;have HD:Hid (∀w',Below W.heap.size W w' → (w'.cell? ⟨g,0,none⟩=some (.int .i64 a.node)∧w'.cell? ⟨g,1,none⟩=some (.int .i64 a.frm)∧w'.cell? ⟨g,2,none⟩=some (.int .i64 a.til)∧w'.cell? ⟨g,3,none⟩=some (.int .i64 a.size)∧w'.cell? ⟨g,4,none⟩=some (.int .i64 a.tick))∧w'.cell? ⟨g+1,0,none⟩=some (.int .i64 b.node)∧w'.cell? ⟨g+1,1,none⟩=some (.int .i64 b.frm)∧w'.cell? ⟨g+1,2,none⟩=some (.int .i64 b.til)∧w'.cell? ⟨g+1,3,none⟩=some (.int .i64 b.size)∧w'.cell? ⟨g+1,4,none⟩=some (.int .i64 b.tick)):=fun w' hb=>by
  have h1:=HK.out.below hb HK.out.lt;have h2:=HL.out.below hb HL.out.lt;exact ⟨⟨h1.cell 0,h1.cell 1,h1.cell 2,h1.cell 3,h1.cell 4⟩,h2.cell 0,h2.cell 1,h2.cell 2,h2.cell 3,h2.cell 4⟩
 go_region_held3 (fun w' => ((w'.cell? ⟨g,0,none⟩=some (.int .i64 a.node)∧w'.cell? ⟨g,1,none⟩=some (.int .i64 a.frm)∧w'.cell? ⟨g,2,none⟩=some (.int .i64 a.til)∧w'.cell? ⟨g,3,none⟩=some (.int .i64 a.size)∧w'.cell? ⟨g,4,none⟩=some (.int .i64 a.tick))∧w'.cell? ⟨g+1,0,none⟩=some (.int .i64 b.node)∧w'.cell? ⟨g+1,1,none⟩=some (.int .i64 b.frm)∧w'.cell? ⟨g+1,2,none⟩=some (.int .i64 b.til)∧w'.cell? ⟨g+1,3,none⟩=some (.int .i64 b.size)∧w'.cell? ⟨g+1,4,none⟩=some (.int .i64 b.tick))∧Hid (Below W.heap.size W w')) (((try go_split_ands); first | exact Xa7 HD (Below.refl _ _).drew | exact Xaw HD (by assumption) hb4 | exact Xa7 HD (Xto (by assumption))))
  ((first
    | (go_at_call 84
       refine (Xbq _ _ _).mono ?_;rintro e w4 ⟨rfl,hw4⟩;have hb4:=Xc8 hw4;clear hw4)
    | (go_at_call 83
       refine (Xh4 _ _ [cmpI a.node b.node,cmpI a.frm b.frm,cmpI a.til b.til,cmpI a.tick b.tick,cmpI a.size b.size] _ rfl (by simp) ?_).mono ?_
       ·exact Xdn _ [cmpI a.node b.node,cmpI a.frm b.frm,cmpI a.til b.til,cmpI a.tick b.tick,cmpI a.size b.size] _
       rintro e w4 ⟨rfl,hw4⟩;have hb4:=Xc8 hw4;clear hw4)))
 have HBF:Hid (Below W.heap.size W w4):=by (try go_split_ands); assumption
 go_wp2;go_ret;exact ⟨rfl,Xa HB0.out HBF.out⟩
theorem Xmz (Aq:Option Addr)(cq:Nat)(Ac:Option Addr)(cc:Nat)(p:Pln)(b:Bkg)(w:World)(hp:Xas w Aq cq Ac cc p) :
  Calls Tryz.prog 87 #[.agg (plA Aq cq Ac cc p),.agg #[.int .i64 b.ct,.int .i64 b.beg,.int .i64 b.fin,.int .i64 b.tick]] w (Xap (Xi8 p b) w):=by
 have HP:=Lib.hid hp;have HM:Hid (p.c.length≤9223372036854775807):=hp.cm;have HO:Hid (Xi8 p b↔(0≤b.tick∧b.tick≤1152921504606846976)∧0≤b.ct ∧ ∃c,p.c[b.ct.toNat]? = some c∧c.beg≤b.beg∧b.beg<b.fin∧b.fin≤c.fin):=Iff.rfl;generalize Xi8 p b=Q at HO ⊢;obtain ⟨b1,b2,b3,b4⟩:=b;simp only at HO ⊢;have HB0:Hid (Below w.heap.size w ((w.alloc (.cells (plA Aq cq Ac cc p) 25)).alloc (.cells #[.int .i64 b1,.int .i64 b2,.int .i64 b3,.int .i64 b4] 95))):=((Below.refl _ _).alloc (Nat.le_refl _) _).alloc (by simp) _
 have hm:=HM.out;clear hp
 by_cases h1:b1<0
 ·have HN:Hid (¬ Q):=fun h=>by have:=(HO.out.1 h).2.1; omega
  clear HO;go_enter Tryz.func87,Tryz.ntmps87;go_wp2;go_ret;exact Xaf ⟨fun h=>(by cases h),fun h=>absurd h HN.out⟩ HB0.out
 ·obtain ⟨k,rfl⟩:∃k:Nat,b1=(k:Int):=⟨b1.toNat,by omega⟩
  by_cases h2:p.c.length≤k
  ·have d1:decide ((k:Int) ≥ (p.c.length:Int))=true:=by simp; omega
   have HN:Hid (¬ Q):=fun h=>by
    obtain ⟨_,_,c,hc,_⟩:=HO.out.1 h;have:p.c[k]? = some c:=by simpa using hc
    rw[List.getElem?_eq_none h2] at this;cases this
   clear HO;go_enter Tryz.func87,Tryz.ntmps87;go_wp2;go_ret;exact Xaf ⟨fun h=>(by cases h),fun h=>absurd h HN.out⟩ HB0.out
  ·have d1:decide ((k:Int) ≥ (p.c.length:Int))=false:=by simp; omega
   have hk:k<p.c.length:=by omega
   by_cases h3:b4<0
   ·have HN:Hid (¬ Q):=fun h=>by have:=(HO.out.1 h).1; omega
    clear HO;go_enter Tryz.func87,Tryz.ntmps87;go_wp2;go_ret;exact Xaf ⟨fun h=>(by cases h),fun h=>absurd h HN.out⟩ HB0.out
   ·by_cases h4:1152921504606846976<b4
    ·have HN:Hid (¬ Q):=fun h=>by have:=(HO.out.1 h).1; omega
     clear HO;go_enter Tryz.func87,Tryz.ntmps87;go_wp2;go_ret;exact Xaf ⟨fun h=>(by cases h),fun h=>absurd h HN.out⟩ HB0.out
    ·have HT:Hid (0≤b4∧b4≤1152921504606846976):=⟨by omega,by omega⟩
     obtain ⟨b,off,rfl,hr⟩:=HP.out.c.one (by omega)
     obtain ⟨r,hrk⟩:∃r,p.c[k]? = some r:=⟨_,List.getElem?_eq_getElem hk⟩;have HRK:=Lib.hid hrk;have hrg:((w.alloc (.cells #[.slice Aq p.q.length cq,.slice (some ⟨b,off,none⟩) p.c.length cc] 25)).alloc (.cells #[.int .i64 (k:Int),.int .i64 b2,.int .i64 b3,.int .i64 b4] 95)).rangeAt b (off+k * 7) (ctE.f r):=Xa3 (hr k r hrk) HB0.out;have c0:=Tp.rgCt hrg;have HQ:Hid (r.beg≤b2→b2<b3→b3≤r.fin→Q):=fun x1 x2 x3=>HO.out.2 ⟨HT.out,Int.natCast_nonneg _,r,by simpa using hrk,x1,x2,x3⟩
     have HQN:Hid (Q→r.beg≤b2∧b2<b3∧b3≤r.fin):=fun h=>by
      obtain ⟨_,_,c,hc,x1,x2,x3⟩:=HO.out.1 h;have:p.c[k]? = some c:=by simpa using hc
      rw[hrk] at this;cases this;exact ⟨x1,x2,x3⟩
     have hb23:b2<b3∨b3≤b2:=by omega
     clear hr hrk hrg h2 HO
     by_cases h5:r.beg≤b2
     ·by_cases h6:b2<b3
      ·by_cases h7:b3≤r.fin
       ·have HF:=Lib.hid (HQ.out h5 h6 h7);clear HQ hb23;go_enter Tryz.func87,Tryz.ntmps87;go_wp2;go_ret;exact Xaf ⟨fun _=>HF.out,fun _=>(by (try simp) <;> (try omega))⟩ (HB0.out.alloc (by simp; omega) _)
       ·clear HQ hb23;go_enter Tryz.func87,Tryz.ntmps87;go_wp2;go_ret;exact Xaf ⟨fun h=>by (simp at h) <;> omega,fun h=>by have:=HQN.out h; omega⟩ (HB0.out.alloc (by simp; omega) _)
      ·have d6:decide (b2<b3)=false:=by simpa using h6
       clear HQ hb23;go_enter Tryz.func87,Tryz.ntmps87;go_wp2;go_ret;exact Xaf ⟨fun h=>by (simp at h) <;> omega,fun h=>by have:=HQN.out h; omega⟩ (HB0.out.alloc (by simp; omega) _)
     ·have d5:decide (r.beg≤b2)=false:=by simpa using h5
      clear HQ hb23;go_enter Tryz.func87,Tryz.ntmps87;go_wp2;go_ret;exact Xaf ⟨fun h=>by (simp at h) <;> omega,fun h=>by have:=HQN.out h; omega⟩ (HB0.out.alloc (by simp; omega) _)
theorem Xhk (Aq:Option Addr)(cq:Nat)(Ac:Option Addr)(cc:Nat)(p:Pln)(h:Hld)(w:World) :
  Calls Tryz.prog 92 #[.agg (plA Aq cq Ac cc p),.agg #[.int .i64 h.node,.int .i64 h.frm,.int .i64 h.til,.int .i64 h.size,.int .i64 h.tick]] w (Xap (Xca p h) w):=by
 have HO:Hid (0≤h.node→h.node<p.q.length→0≤h.frm→h.frm<h.til→h.til≤1099511627776→1≤h.size→h.size≤65536→0≤h.tick→h.tick≤1152921504606846976→Xca p h):=fun a b c d e f g i j=>⟨a,b,c,d,e,f,g,i,j⟩;have HON:Hid (Xca p h→0≤h.node∧h.node<p.q.length∧0≤h.frm∧h.frm<h.til∧h.til≤1099511627776∧1≤h.size∧h.size≤65536∧0≤h.tick∧h.tick≤1152921504606846976):=fun h=>h;generalize Xca p h=Q at HO HON ⊢;obtain ⟨h1,h2,h3,h4,h5⟩:=h;simp only at HO HON ⊢;have HB0:Hid (Below w.heap.size w ((w.alloc (.cells (plA Aq cq Ac cc p) 25)).alloc (.cells #[.int .i64 h1,.int .i64 h2,.int .i64 h3,.int .i64 h4,.int .i64 h5] 99))):=((Below.refl _ _).alloc (Nat.le_refl _) _).alloc (by simp) _
 by_cases hv:0≤h1∧h1<p.q.length∧0≤h2∧h2<h3∧h3≤1099511627776∧1≤h4∧h4≤65536∧0≤h5∧h5≤1152921504606846976
 ·obtain ⟨v1,v2,v3,v4,v5,v6,v7,v8,v9⟩:=hv;have HF:=Lib.hid (HO.out v1 v2 v3 v4 v5 v6 v7 v8 v9);clear HO;go_enter Tryz.func92,Tryz.ntmps92;go_wp2;go_ret;exact Xaf ⟨fun _=>HF.out,fun _=>(by (try simp) <;> (try omega))⟩ HB0.out
 ·have HVN:=Lib.hid hv;clear HO;go_enter Tryz.func92,Tryz.ntmps92;go_wp2
  all_goals
   go_ret
   first
   | exact Xaf ⟨fun h=>(by cases h),fun h=>absurd (HON.out h) HVN.out⟩ HB0.out
   | exact Xaf ⟨fun h=>by (simp at h) <;> omega,fun h=>absurd (HON.out h) HVN.out⟩ HB0.out
theorem Xtt {a b:Bkg}:bkC a b<0↔a.ct<b.ct∨a.ct=b.ct∧a.beg<b.beg:=by
 unfold bkC;simp only[orL];unfold cmpI
 by_cases h1:a.ct<b.ct
 ·simp[h1]
 ·by_cases h2:b.ct<a.ct
  ·simp[h1,h2]; omega
  ·by_cases h3:a.beg<b.beg
   ·simp[h1,h2,h3]; omega
   ·by_cases h4:b.beg<a.beg
    ·simp[h1,h2,h3,h4]; try omega
    ·simp[h1,h2,h3,h4]; try omega
theorem Xmc {α:Type}{R:α → α → Prop}{l:List α}{j:Nat}{x r:α}(h:l.Pairwise R)(hx:l[j]? = some x)(hr:l[j+1]? = some r):R x r:=by
 obtain ⟨h1,rfl⟩:=List.getElem?_eq_some_iff.1 hx;obtain ⟨h2,rfl⟩:=List.getElem?_eq_some_iff.1 hr;exact List.pairwise_iff_getElem.1 h j (j+1) h1 h2 (Nat.lt_succ_self _)
theorem Xds (Aq:Option Addr)(cq:Nat)(Ac:Option Addr)(cc:Nat)(p:Pln)(B:Option Addr)(cb:Nat)(l:List Bkg)(w:World)(hp:Xas w Aq cq Ac cc p)(hl:SlAt bkE w B l)(hlm:l.length≤maxLen) :
  Calls Tryz.prog 76 #[.agg (plA Aq cq Ac cc p),.slice B l.length cb] w (Xd (Xbe p∧Xk9 p l) w):=by
 have HP:=Lib.hid hp;have HL:=Lib.hid hl;have HB0:Hid (Below w.heap.size w (w.alloc (.cells (plA Aq cq Ac cc p) 25))):=(Below.refl _ _).alloc (Nat.le_refl _) _;have HK:=Lib.hid (Bk.new w 25 (plA Aq cq Ac cc p));have HC:=Lib.hid (fun w h=>Xb2 Aq cq Ac cc p w h);clear hp hl;unfold maxLen at hlm;go_enter Tryz.func76,Tryz.ntmps76;go_wp2_with fail;generalize w.alloc (.cells (plA Aq cq Ac cc p) 25)=W at HB0 HK ⊢;generalize w.heap.size=g0 at HK ⊢;refine (HC.out _ (HP.out.below HB0.out)).mono ?_;rintro e w1 ⟨q,rfl,hq,hb1⟩;have HQ:=Lib.hid hq;have HB1:=Lib.hid (Xa HB0.out hb1);have HK1:=Lib.hid (HK.out.below hb1 HK.out.lt);clear hq hb1 HB0 HK HC
 by_cases h0:q=0
 ·subst h0;have HPO:=Lib.hid (HQ.out.1 rfl);clear HQ
  by_cases h1:(512:Int)<(l.length:Int)
  ·go_wp2;go_ret;exact Xa2 (by decide) (fun h=>by have:=h.2.1; omega) HB1.out
  ·have HLN:Hid (l.length≤512):=by show _≤_; omega
   go_wp2;generalize hw1:w1=W1 at HB1 HK1 ⊢;clear hw1;go_loopw [5,6,15] (fun _ _ i wr => ∃k:Nat,k≤l.length∧i = .int .i64 k∧Below W1.heap.size W1 wr∧(∀b ∈ l.take k,Xi8 p b)∧(l.take k).Pairwise bkLt) (fun _ _ i _=>l.length - (intOf i).toNat)
   case atStart=>exact ⟨0,Nat.zero_le _,rfl,Below.refl _ _,by simp,by simp⟩
   case round =>
    obtain ⟨k,hk,rfl,hbw,hok,hpw⟩:=hrel;obtain ⟨wq,rfl⟩:∃wo:World,wo=wr:=⟨_,rfl⟩;have HB:=Lib.hid hbw;have HOK:=Lib.hid hok;have HPW:=Lib.hid hpw;clear hbw hok hpw
    by_cases hlt:k<l.length
    ·have HLA:=Lib.hid (HL.out.below (Xa HB1.out HB.out));obtain ⟨b,off,rfl,hr⟩:=HLA.out.one (by omega)
     obtain ⟨r,hrk⟩:∃r,l[k]? = some r:=⟨_,List.getElem?_eq_getElem hlt⟩;have HRK:=Lib.hid hrk;have HRA:=Lib.hid hr;have hrg:wq.rangeAt b (off+k * 4) (bkE.f r):=hr k r hrk;have c0:=Tp.rgBk hrg;have HV:=Lib.hid (fun w h=>Xmz Aq cq Ac cc p r w h);have HKN:=Lib.hid (Bk.new wq 95 (bkA r));have HBN:Hid (Below wq.heap.size wq (wq.alloc (.cells (bkA r) 95))):=(Below.refl _ _).alloc (Nat.le_refl _) _;have HKP:Hid (Bk (wq.alloc (.cells (bkA r) 95)) g0 25 (plA Aq cq Ac cc p)):=HK1.out.below (Xa HB.out HBN.out) HK1.out.lt;have p0:=HKP.out.cell 0;have p1:=HKP.out.cell 1;have p0':(wq.alloc (.cells (bkA r) 95)).cell? ⟨g0,0,none⟩=some (.slice Aq p.q.length cq):=p0;have p1':(wq.alloc (.cells (bkA r) 95)).cell? ⟨g0,1,none⟩=some (.slice Ac p.c.length cc):=p1;clear hr hrk hrg p0 p1;go_wp2_with fail;generalize wq.alloc (.cells (bkA r) 95)=W2 at HKN HBN HKP p0' p1' ⊢;generalize hg1:wq.heap.size=g1 at HKN ⊢;clear hg1 c0 p0' p1';refine (HV.out _ (HP.out.below (Xa (Xa HB1.out HB.out) HBN.out))).mono ?_;rintro e w4 ⟨v,rfl,hv,hb4⟩;have HVV:=Lib.hid hv;have HB4:=Lib.hid (Xa (Xa HB.out HBN.out) hb4);have HK4:=Lib.hid (HKN.out.below hb4 HKN.out.lt);have HRX:Hid (∀i y,l[i]? = some y→w4.rangeAt b (off+i * 4) (bkE.f y)):=fun i y h=>Xa3 (HRA.out i y h) (Xa HBN.out hb4);clear hv hb4 HV HKN HBN HKP;cases v with
     | false =>
       have HN:Hid (¬ Xi8 p r):=fun h=>by have:=HVV.out.2 h; cases this
       go_wp2;go_ret;exact Xa2 (by decide) (fun h=>HN.out (h.2.2.1 r (List.mem_of_getElem? HRK.out))) (Xa HB1.out HB4.out)
     | true =>
       have HN1:=Lib.hid (Xnw HRK.out HOK.out (HVV.out.1 rfl));cases k with
       | zero =>
         have HN2:Hid ((l.take (0+1)).Pairwise bkLt):=by
          show List.Pairwise _ _;rw[take_snoc HRK.out];simp
         rw[show ((0:Nat):Int)=0 from rfl];go_wp2;go_roundw
         case rel=>exact ⟨0+1,by omega,by go_num,HB4.out,HN1.out,HN2.out⟩
         case measure=>simp[intOf]; omega
       | succ j =>
         obtain ⟨x,hx⟩:∃x,l[j]? = some x:=⟨_,List.getElem?_eq_getElem (by omega)⟩
         have HX:=Lib.hid hx;have HXR:=Lib.hid (HRX.out j x hx);have HCM:=Lib.hid (fun w=>Xk3 x r w);have hjl:(j:Int)<(l.length:Int):=by omega
         have hjl1:(j:Int)+1<(l.length:Int):=by omega
         have hj0:(0:Int)≤(j:Int):=by omega
         have hj1:(0:Int)≤(j:Int)+1:=by omega
         have hjt:((j:Int)+1).toNat=j+1:=by omega
         have hjb:(((j:Int)+1) == 0)=false:=by rw[beq_eq_false_iff_ne]; omega
         have hjw:IntKind.i64.wrap ((j:Int)+1 - 1)=(j:Int):=by rw[IntWalk.i64_in _ (by omega)]; omega
         have hjw2:IntKind.i64.wrap (j:Int)=(j:Int):=IntWalk.i64_in _ (by omega)
         rw[show ((j+1:Nat):Int)=(j:Int)+1 by omega]
         have HD2:Hid (∀w',Below w4.heap.size w4 w' → (w'.cell? ⟨g1,0,none⟩=some (.int .i64 r.ct)∧w'.cell? ⟨g1,1,none⟩=some (.int .i64 r.beg)∧w'.cell? ⟨g1,2,none⟩=some (.int .i64 r.fin)∧w'.cell? ⟨g1,3,none⟩=some (.int .i64 r.tick))∧w'.cell? ⟨b,off+j * 4,none⟩=some (.int .i64 x.ct)∧w'.cell? ⟨b,off+j * 4+1,none⟩=some (.int .i64 x.beg)∧w'.cell? ⟨b,off+j * 4+2,none⟩=some (.int .i64 x.fin)∧w'.cell? ⟨b,off+j * 4+3,none⟩=some (.int .i64 x.tick)):=fun w' hb' => by
          have h4:=HK4.out.below hb' HK4.out.lt;have h5:=Xa3 HXR.out hb';exact ⟨⟨h4.cell 0,h4.cell 1,h4.cell 2,h4.cell 3⟩,h5 0 _ rfl,h5 1 _ rfl,h5 2 _ rfl,h5 3 _ rfl⟩
         have HSN:Hid (bkLt x r→(l.take (j+1+1)).Pairwise bkLt):=by
          intro hxr;rw[take_snoc HRK.out,take_snoc HX.out];refine Xsc ?_ hxr;rw[←take_snoc HX.out];exact HPW.out
         have HBD:Hid (Xk9 p l→bkLt x r):=fun h=>Xmc h.2.2 HX.out HRK.out;have HCI:Hid (bkC x r<0↔x.ct<r.ct∨x.ct=r.ct∧x.beg<r.beg):=Xtt;generalize bkC x r=cz at HCM HCI;clear hx
         by_cases hc:cz<0
         ·have e1:decide (cz ≥ 0)=false:=by simpa using hc
          go_wp2;go_region_held3 (fun w' => ((w'.cell? ⟨g1,0,none⟩=some (.int .i64 r.ct)∧w'.cell? ⟨g1,1,none⟩=some (.int .i64 r.beg)∧w'.cell? ⟨g1,2,none⟩=some (.int .i64 r.fin)∧w'.cell? ⟨g1,3,none⟩=some (.int .i64 r.tick))∧w'.cell? ⟨b,off+j * 4,none⟩=some (.int .i64 x.ct)∧w'.cell? ⟨b,off+j * 4+1,none⟩=some (.int .i64 x.beg)∧w'.cell? ⟨b,off+j * 4+2,none⟩=some (.int .i64 x.fin)∧w'.cell? ⟨b,off+j * 4+3,none⟩=some (.int .i64 x.tick))∧Hid (Below w4.heap.size w4 w')) (((try go_split_ands); first | exact Xa7 HD2 (Below.refl _ _).drew | exact Xaw HD2 (by assumption) hb5))
           ((go_at_call 143
             refine (HCM.out _).mono ?_;rintro e w5 ⟨rfl,hb5⟩))
          have HBF:Hid (Below w4.heap.size w4 w5):=by (try go_split_ands); assumption
          have HBW:=Lib.hid (Xa HB4.out HBF.out);have hfc:=HD2.out w5 HBF.out;obtain ⟨⟨d0,d1,d2,d3⟩,x0,x1,x2,x3⟩:=hfc;clear HD2 HBF;have hor:=HCI.out.1 hc;clear hc HCI
          by_cases hs:x.ct=r.ct
          ·have e2:(x.ct == r.ct)=true:=by simpa using hs
           by_cases hf:r.beg<x.fin
           ·have HN:Hid (¬ Xk9 p l):=fun h=>by have:=HBD.out h; unfold bkLt at this; omega
            clear hs hor;go_wp2;go_quiet (fail);go_wp2;go_ret;exact Xa2 (by decide) (fun h=>HN.out h.2) (Xa HB1.out (Xa4 HBW.out _))
           ·have HN2:=Lib.hid (HSN.out (.inr ⟨hs,by omega,by omega⟩))
            have e3:decide (r.beg<x.fin)=false:=by simpa using hf
            clear hs hor HSN;go_wp2;go_quiet (fail);go_wp2;go_roundw
            case rel=>exact ⟨j+1+1,by omega,by go_num,Xa4 HBW.out _,HN1.out,HN2.out⟩
            case measure=>simp[intOf]; omega
          ·have e2:(x.ct == r.ct)=false:=by simpa using hs
           have HN2:=Lib.hid (HSN.out (.inl (by omega)))
           clear hs hor HSN;go_wp2;go_quiet (fail);go_wp2;go_roundw
           case rel=>exact ⟨j+1+1,by omega,by go_num,Xa4 HBW.out _,HN1.out,HN2.out⟩
           case measure=>simp[intOf]; omega
         ·have HN:Hid (¬ Xk9 p l):=fun h=>by
           have:=HBD.out h;unfold bkLt at this;exact hc (HCI.out.2 (by omega))
          have e1:decide (cz ≥ 0)=true:=decide_eq_true (by omega)
          clear HCI;go_wp2;go_region_held3 (fun w' => ((w'.cell? ⟨g1,0,none⟩=some (.int .i64 r.ct)∧w'.cell? ⟨g1,1,none⟩=some (.int .i64 r.beg)∧w'.cell? ⟨g1,2,none⟩=some (.int .i64 r.fin)∧w'.cell? ⟨g1,3,none⟩=some (.int .i64 r.tick))∧w'.cell? ⟨b,off+j * 4,none⟩=some (.int .i64 x.ct)∧w'.cell? ⟨b,off+j * 4+1,none⟩=some (.int .i64 x.beg)∧w'.cell? ⟨b,off+j * 4+2,none⟩=some (.int .i64 x.fin)∧w'.cell? ⟨b,off+j * 4+3,none⟩=some (.int .i64 x.tick))∧Hid (Below w4.heap.size w4 w')) (((try go_split_ands); first | exact Xa7 HD2 (Below.refl _ _).drew | exact Xaw HD2 (by assumption) hb5))
           ((go_at_call 143
             refine (HCM.out _).mono ?_;rintro e w5 ⟨rfl,hb5⟩))
          have HBF:Hid (Below w4.heap.size w4 w5):=by (try go_split_ands); assumption
          have HBW:=Lib.hid (Xa HB4.out HBF.out);have hfc:=HD2.out w5 HBF.out;obtain ⟨⟨d0,d1,d2,d3⟩,x0,x1,x2,x3⟩:=hfc;clear HD2 HBF;go_wp2;go_ret;exact Xa2 (by decide) (fun h=>HN.out h.2) (Xa HB1.out HBW.out)
    ·have HF:Hid (Xbe p∧Xk9 p l):=by
      refine ⟨HPO.out,HLN.out,?_,?_⟩
      ·intro b hb;refine HOK.out b ?_;rw[List.take_of_length_le (by omega)]
       exact hb
      ·have h:=HPW.out
       rwa [List.take_of_length_le (by omega)] at h
     go_wp2;go_ret;exact Xbf HF.out (Xa HB1.out HB.out)
 ·have hqb:(q != 0)=true:=by rw[bne_iff_ne]; exact h0
  have H0:=Lib.hid h0;clear h0;go_wp2;go_ret;exact Xa2 (by decide) (fun h=>H0.out (HQ.out.2 h.1)) HB1.out
theorem Xc5 (Aq:Option Addr)(cq:Nat)(Ac:Option Addr)(cc:Nat)(p:Pln)(r:Rq)(w:World)(hp:Xas w Aq cq Ac cc p) :
  Calls Tryz.prog 48 #[.agg (plA Aq cq Ac cc p),.agg (rqA r)] w (Xd (RqOK p r) w):=by
 have HP:=Lib.hid hp;have HO:Hid (Xbe p→0≤r.src→r.src<p.q.length→0≤r.dst→r.dst<p.q.length→r.src ≠ r.dst→1≤r.size→r.size≤65536→0≤r.ready→r.ready≤r.dead→r.dead≤1099511627776→0≤r.prio→r.prio≤2→RqOK p r):=fun a b c d e f g h i j k l m=>⟨a,⟨b,c⟩,⟨d,e⟩,f,⟨g,h⟩,i,j,k,l,m⟩;have HON:Hid (RqOK p r→Xbe p∧(0≤r.src∧r.src<p.q.length)∧(0≤r.dst∧r.dst<p.q.length)∧r.src ≠ r.dst∧(1≤r.size∧r.size≤65536)∧0≤r.ready∧r.ready≤r.dead∧r.dead≤1099511627776∧0≤r.prio∧r.prio≤2):=fun h=>h;generalize RqOK p r=Q at HO HON ⊢;obtain ⟨r1,r2,r3,r4,r5,r6,r7⟩:=r;simp only at HO HON ⊢;have HB0:Hid (Below w.heap.size w ((w.alloc (.cells (plA Aq cq Ac cc p) 25)).alloc (.cells #[.int .i64 r1,.int .i64 r2,.int .i64 r3,.int .i64 r4,.int .i64 r5,.int .i64 r6,.bool r7] 31))):=((Below.refl _ _).alloc (Nat.le_refl _) _).alloc (by simp) _
 have HK:=Lib.hid ((Bk.new w 25 (plA Aq cq Ac cc p)).alloc (.cells #[.int .i64 r1,.int .i64 r2,.int .i64 r3,.int .i64 r4,.int .i64 r5,.int .i64 r6,.bool r7] 31));have HR:Hid (Bk ((w.alloc (.cells (plA Aq cq Ac cc p) 25)).alloc (.cells #[.int .i64 r1,.int .i64 r2,.int .i64 r3,.int .i64 r4,.int .i64 r5,.int .i64 r6,.bool r7] 31)) (w.heap.size+1) 31 #[.int .i64 r1,.int .i64 r2,.int .i64 r3,.int .i64 r4,.int .i64 r5,.int .i64 r6,.bool r7]):=by
  have h:=Bk.new (w.alloc (.cells (plA Aq cq Ac cc p) 25)) 31 #[.int .i64 r1,.int .i64 r2,.int .i64 r3,.int .i64 r4,.int .i64 r5,.int .i64 r6,.bool r7]
  rwa [World.size_alloc] at h
 have hqm:p.q.length≤9223372036854775807:=hp.qm;clear hp;go_enter Tryz.func48,Tryz.ntmps48;go_wp2_with fail;generalize (w.alloc (.cells (plA Aq cq Ac cc p) 25)).alloc (.cells #[.int .i64 r1,.int .i64 r2,.int .i64 r3,.int .i64 r4,.int .i64 r5,.int .i64 r6,.bool r7] 31)=W at HB0 HK HR ⊢;generalize w.heap.size=g0 at HK HR ⊢;refine (Xb2 Aq cq Ac cc p W (HP.out.below HB0.out)).mono ?_;rintro e w1 ⟨q,rfl,hq,hb1⟩;have HQ:=Lib.hid hq;have HB1:=Lib.hid (Xa HB0.out hb1);have HK1:=Lib.hid (HK.out.below hb1 HK.out.lt);have HR1:=Lib.hid (HR.out.below hb1 HR.out.lt);clear hq hb1 HB0 HK HR
 by_cases h0:q=0
 ·subst h0;have HPO:=Lib.hid (HQ.out.1 rfl);have p0:=HK1.out.n0;have q0:=HR1.out.c6;clear HQ HK1 HR1
  by_cases hv:(0≤r1∧r1<p.q.length)∧0≤r2∧r2<p.q.length
  ·obtain ⟨⟨v1,v2⟩,v3,v4⟩:=hv
   by_cases he:r1=r2
   ·have e1:(r1 == r2)=true:=by simpa using he
    have HN:Hid (¬ Q):=fun h=>(HON.out h).2.2.2.1 he;clear he;go_wp2;go_ret;exact Xa2 (by decide) HN.out HB1.out
   ·have e1:(r1 == r2)=false:=by simpa using he
    have HF:=Lib.hid (HO.out HPO.out v1 v2 v3 v4 he);clear he HO
    by_cases hv2:(1≤r3∧r3≤65536)∧0≤r4∧r4≤r5∧r5≤1099511627776
    ·obtain ⟨⟨v5,v6⟩,v7,v8,v9⟩:=hv2
     by_cases hv3:0≤r6∧r6≤2
     ·have HG:=Lib.hid (HF.out v5 v6 v7 v8 v9 hv3.1 hv3.2);obtain ⟨va,vb⟩:=hv3;clear HF;go_wp2;go_ret;exact Xbf HG.out HB1.out
     ·have HN:Hid (¬ Q):=fun h=>hv3 (HON.out h).2.2.2.2.2.2.2.2;clear HF;go_wp2
      all_goals
       go_ret
       first
       | exact Xa2 (by decide) HN.out HB1.out
       | omega
    ·have HN:Hid (¬ Q):=fun h=>hv2 ⟨(HON.out h).2.2.2.2.1,(HON.out h).2.2.2.2.2.1,(HON.out h).2.2.2.2.2.2.1,(HON.out h).2.2.2.2.2.2.2.1⟩;clear HF;go_wp2
     all_goals
      go_ret
      first
      | exact Xa2 (by decide) HN.out HB1.out
      | omega
  ·have HN:Hid (¬ Q):=fun h=>hv ⟨(HON.out h).2.1,(HON.out h).2.2.1⟩;clear HO;go_wp2
   all_goals
    go_ret
    first
    | exact Xa2 (by decide) HN.out HB1.out
    | omega
 ·have hqb:(q != 0)=true:=by rw[bne_iff_ne]; exact h0
  have HN:Hid (¬ Q):=fun h=>h0 (HQ.out.2 (HON.out h).1);clear h0;go_wp2;go_ret;exact Xa2 (by decide) HN.out HB1.out
end Go.Proofs.YtebkgbmijocdjaaGreat.Tp
