/- A part of the proof for the ledger. No condition beyond those that each theorem states. -/
import Derived.RangeFuncFrom
import Derived.Test.YtebkgbmijocdjaaGreatZ11
set_option maxHeartbeats 32000000
set_option maxRecDepth 100000
set_option linter.unusedVariables false
set_option linter.unusedSimpArgs false
namespace Go.Proofs.YtebkgbmijocdjaaGreat.Tp
open Go Go.RowKit
def Xfu {β:Type}(B:Nat)(J:β → World→Prop):Prop:=∀(s:β)(W:World)(o:Nat)(v:Value),J s W→J s (W.setCell ⟨B,o,none⟩ v)
def Xk6 {α:Type}(F:Fence)(n:Nat)(P:Program)(g:Nat)(lb:Array Value)(encs:α → Array Value)(Kp:World→World→Prop)(S Sp:List α → Prop)(N:Nat)(w:World):Prop :=
 ∀(l:Nat) (J Jx:List α → World→Prop) (W:World),Below w.heap.size w W→AbidesFrom W.heap.size J→AbidesFrom W.heap.size Jx→Xfu W.heap.size J →
  (∀pre x W1,J pre W1→Sp (pre ++ [x])→W.heap.size<W1.heap.size→pre.length<N→YieldAt F (n - 1) P l (encs x) W1 fun e W' => (e = .returned (.bool true)∧J (pre ++ [x]) W' ∧ Kp W1 W')∨(e = .returned (.bool false)∧Jx (pre ++ [x]) W')) →
  J [] W→CallsIn F n P g (#[.func (.yield l) #[] #[]] ++ lb) W fun e W' => (∃v,e = .returned v)∧((∃xs,S xs∧J xs W')∨(∃pre,Sp pre∧Jx pre W'))
variable {F:Fence} {n:Nat} {P:Program}
def Xd8 (D:Nat)(r:Loop)(W:World):Prop:=W.heap[D+1]? = some (.loop r)∧W.heap[D]? = some (.deferred (some []))
theorem Xd8.grown {D:Nat}{r:Loop}{W W':World}{row:Option Nat}(h:Xd8 D r W)(hg:W.grownBy W' row)(hr:∀q,row=some q → ∃o:Obj,W.heap[q]? = some o∧o.isWalk=true):Xd8 D r W':=by
 refine ⟨(hg.block _ (Array.getElem?_eq_some_iff.1 h.1).1 (fun e=>?_)).trans h.1,(hg.block _ (Array.getElem?_eq_some_iff.1 h.2).1 (fun e=>?_)).trans h.2⟩
 ·obtain ⟨o,ho,hw⟩:=hr _ e.symm;rw[h.1] at ho;cases ho;cases hw
 ·obtain ⟨o,ho,hw⟩:=hr _ e.symm;rw[h.2] at ho;cases ho;cases hw
theorem Xd8.cell {D B:Nat}{r:Loop}{W:World}(h:Xd8 D r W)(hB:D+1<B)(o:Nat)(v:Value):Xd8 D r (W.setCell ⟨B,o,none⟩ v) :=
 ⟨(Below.heap_setCell W ⟨B,o,none⟩ v _ (by show D+1 ≠ B; omega)).trans h.1,(Below.heap_setCell W ⟨B,o,none⟩ v _ (by show D ≠ B; omega)).trans h.2⟩
theorem Xd8.put {D:Nat}{r r':Loop}{W:World}(h:Xd8 D r W):Xd8 D r' (W.putObj (D+1) (.loop r')) :=
 ⟨World.putObj_heap_same (Array.getElem?_eq_some_iff.1 h.1).1,(World.putObj_heap_other (by omega)).trans h.2⟩
theorem Xd8.others {D:Nat}{r:Loop}{W W':World}(h:Xd8 D r W)(hk:KeepsOthers W W'):Xd8 D r W':=⟨hk.same _ _ h.1 rfl,hk.same _ _ h.2 rfl⟩
theorem Xm2 {K:Act→World→Prop}{ex:Exit}{a:Act}{w:World}(h:Exit.then K (fun _ _ _=>False) ex a w):ex = .normal∧K a w:=by
 cases ex with
 | normal=>exact ⟨rfl,h⟩
 | _=>exact h.elim
theorem Xdm {α:Type}{g:Operand}{ps:Array Tmp}{assign body:Code}{Q:Exit→Act→World→Prop}{a:Act}{w:World}
  (hro:F.round=none) (h1:1≤n) {gf:Nat} {lb:Array Value} (hg:a.eval g = .func (.func gf) #[] lb) (hFg:F.fn gf) (eg:∀args w,(callFunc gf args).run P w = .ok (.enter gf args) w)
  {encs:α → Array Value} {Kp:World→World→Prop} {S Sp:List α → Prop} {N:Nat} {w0:World} (hseq:Xk6 F (n - 1) P gf lb encs Kp S Sp N w0)
  (hKt:∀ {A B C:World},Kp A B→Kp B C→Kp A C) (hKb:∀(W:World) (l:Nat) (o o':Obj),w.heap.size≤l→W.heap[l]? = some o→o.isCells=false→o.isWalk=false→Kp W (W.putObj l o')) (hb0:Below w0.heap.size w0 w) (hps:∀x,(encs x).size=ps.size)
  (I Ix:List α → World→Prop) (I1:List α → α → Nat→World→Prop) (hI:OwnFrom w.heap.size I) (hIx:OwnFrom w.heap.size Ix) (hI1:OwnFrom w.heap.size (fun (s:List α × α × Nat) W=>I1 s.1 s.2.1 s.2.2 W)) (hIb:Xfu (w.heap.size+2) I) (h0:I [] w) (a₁:α → Nat→Act)
  (hassign:∀(l:Nat) (pre:List α) (x:α) (W:World),I pre W→Sp (pre ++ [x])→w.heap.size+2<W.heap.size→pre.length<N →
    assign.wpIn (F.inRound l) (n - 1 - 1) P (Exit.then (fun a' W' => KeepsOthers W W' ∧ Kp W W' ∧ ∃b,a' = a₁ x b∧I1 pre x b W') (fun _ _ _=>False)) { tmps:=(ps.zip (encs x)).foldl (fun t (p,v)=>t.setIfInBounds p v) a.tmps,defers := [] } W)
  (hbody:∀(l:Nat) (pre:List α) (x:α) (b:Nat) (W:World),I1 pre x b W→Sp (pre ++ [x])→w.heap.size+2<W.heap.size→pre.length<N→body.wpIn (F.inRound l) (n - 1 - 1) P (ownPostK Kp I (fun c pre W=>c = .ret∧Ix pre W) (pre ++ [x]) W) (a₁ x b) W)
  (hdone:∀(D:Nat) (xs:List α) (W:World),w.heap.size≤D→S xs→I xs W→W.heap[D]? = some (.deferred (some []))→Q .normal { a with defers:={ target:=.collected D,args := #[] } :: a.defers } W)
  (hstop:∀(D:Nat) (pre:List α) (W:World),w.heap.size≤D→Sp pre→Ix pre W→W.heap[D]? = some (.deferred (some []))→Code.ret.wpIn F n P Q { a with defers:={ target:=.collected D,args := #[] } :: a.defers } W) :
  (Code.rangeFunc g ps assign body).wpIn F n P Q a w:=by
 refine wpIn_rangeFunc fun fn hfn=>?_;rw[hro]
 let R:LoopState→Option Code→Loop:=fun st pe => { state:=st,pending:=pe,fn,tmps:=a.tmps,params:=ps,assign,body,defers:=w.heap.size }
 obtain ⟨W1,hW1⟩:∃W1,(w.alloc (.deferred (some []))).alloc (.loop (R .ready none))=W1:=⟨_,rfl⟩;have hL:Xd8 w.heap.size (R .ready none) W1:=by
  rw[←hW1];refine ⟨?_,(Below.heap_alloc _ _ _ (by simp)).trans (World.alloc_heap_new w _)⟩
  have h:=World.alloc_heap_new (w.alloc (.deferred (some []))) (.loop (R .ready none))
  rwa [World.size_alloc] at h
 have hsz:W1.heap.size=w.heap.size+2:=by rw[←hW1]; simp
 have hIW1:I [] W1:=by rw[←hW1]; exact hI.alloc _ (hI.alloc _ h0)
 have hb1:Below w0.heap.size w0 W1:=by rw[←hW1]; exact (hb0.alloc hb0.size _).alloc (by have:=hb0.size; simp; omega) _
 refine ⟨w.heap.size+1, [{ target:=.collected w.heap.size,args := #[] }],W1,{ target:=.fn (.func gf) lb,args := #[.func (.yield (w.heap.size+1)) #[] #[]] },W1,gf,
  #[.func (.yield (w.heap.size+1)) #[] #[]] ++ lb,W1,?_,?_,?_,?_,fun _=>h1,?_⟩
 ·rw[←hW1]; exact run_enterLoop_outer _ _ _ _ _
 ·simp only[resolve,hg]; simp[go_sem]
 ·intro f' hf'; simp[Target.leads] at hf'; subst hf'; exact hFg
 ·simp[invoke,go_sem,eg]
 ·have hwc:∀ {A:World} {row:Option Nat},(∀r,row=some r→W1.heap.size≤r ∧ ∃o:Obj,A.heap[r]? = some o∧o.isWalk=true) → ∀r,row=some r→w.heap.size≤r ∧ ∃o:Obj,A.heap[r]? = some o∧o.isCells=false:=fun hr r e=>by
   obtain ⟨h2,o,ho,hw⟩:=hr r e;exact ⟨by omega,o,ho,Obj.not_cells_of_walk hw⟩
  have hturn:∀ {st:LoopState} {pe:Option Code} {W:World} (r':Loop),Xd8 w.heap.size (R st pe) W→Kp W (W.putObj (w.heap.size+1) (.loop r')):=fun r' h=>hKb _ _ _ _ (by omega) h.1 rfl rfl
  have iput:∀ {st:LoopState} {pe:Option Code} {W:World} {xs:List α} (r':Loop),Xd8 w.heap.size (R st pe) W→I xs W→I xs (W.putObj (w.heap.size+1) (.loop r')):=fun r' h hi=>hI.putObj _ hi (by omega) h.1 rfl
  have xput:∀ {st:LoopState} {pe:Option Code} {W:World} {xs:List α} (r':Loop),Xd8 w.heap.size (R st pe) W→Ix xs W→Ix xs (W.putObj (w.heap.size+1) (.loop r')):=fun r' h hi=>hIx.putObj _ hi (by omega) h.1 rfl
  refine (hseq (w.heap.size+1) (fun pre W=>I pre W∧Xd8 w.heap.size (R .ready none) W) (fun pre W=>Ix pre W∧Xd8 w.heap.size (R .done (some .ret)) W) W1 hb1
   (fun s A B row h hg' hr=>⟨hI s A B row h.1 hg' (hwc hr),h.2.grown hg' (fun r e=>(hr r e).2)⟩)
   (fun s A B row h hg' hr=>⟨hIx s A B row h.1 hg' (hwc hr),h.2.grown hg' (fun r e=>(hr r e).2)⟩)
   (fun s A o v h=>by rw[hsz]; exact ⟨hIb s A o v h.1,h.2.cell (by omega) o v⟩) ?_ ⟨hIW1,hL⟩).mono ?_
  ·rintro pre x W ⟨hi,hrec⟩ hsp hbz hlen;rw[hsz] at hbz;refine ⟨fn,_,assign,body,run_yield hrec.1 (hps x),roundIn_of_wpIn hfn (wpIn_mono (hassign _ pre x W hi hsp hbz hlen) ?_)⟩;intro ex a' Wa hpa;obtain ⟨rfl,hka,hkpa,b,rfl,hia⟩:=Xm2 hpa;have hrec1:Xd8 w.heap.size (R .ready none) Wa:=hrec.others hka;refine ⟨_,run_beginRound hrec1.1 rfl,?_⟩;have hrec2:Xd8 w.heap.size (R .busy none) (Wa.putObj (w.heap.size+1) (.loop (R .busy none))):=hrec1.put;have hia2:I1 pre x b (Wa.putObj (w.heap.size+1) (.loop (R .busy none))):=hI1.putObj (s:=(pre,x,b)) _ hia (by omega) hrec1.1 rfl
   refine wpIn_mono (hbody _ pre x b _ hia2 hsp (by have:=hka.size; simp; omega) hlen) ?_
   have fin:∀(jump:Option Code) (W3:World),KeepsOthers (Wa.putObj (w.heap.size+1) (.loop (R .busy none))) W3→Xd8 w.heap.size (R .busy none) W3 ∧
     (Instr.endRound (w.heap.size+1) jump).run P W3 = .ok (.bool jump.isNone) (W3.putObj (w.heap.size+1) (.loop (R (if jump.isNone then .ready else .done) jump))):=fun jump W3 hk=>by
    have h3:=hrec2.others hk;exact ⟨h3,run_endRound jump h3.1⟩
   rintro e a3 W3 hp;cases e with
   | normal =>
     obtain ⟨hk3,hkp3,hi3⟩:=hp;obtain ⟨h3,hr⟩:=fin none W3 hk3;exact ⟨_,_,hr,.inl ⟨rfl,⟨iput _ h3 hi3,h3.put⟩,hKt (hKt hkpa (hKt (hturn _ hrec1) hkp3)) (hturn _ h3)⟩⟩
   | ret =>
     obtain ⟨hk3,-,hi3⟩:=hp;obtain ⟨h3,hr⟩:=fin (some .ret) W3 hk3;exact ⟨_,_,hr,.inr ⟨rfl,xput _ h3 hi3,h3.put⟩⟩
   | exit id=>exact absurd hp.2.1 (by simp)
   | goto t=>exact absurd hp.2.1 (by simp)
   | panic ch=>exact hp.elim
   | outgrown=>exact hp.elim
  ·rintro e W2 ⟨⟨v,rfl⟩,h | h⟩
   ·obtain ⟨xs,hS,hi,hr⟩:=h;exact ⟨none,_,run_endLoop hr.1 (by simp[R]),hdone _ xs _ (Nat.le_refl _) hS (iput _ hr hi) (hr.put (r':=R .exhausted none)).2⟩
   ·obtain ⟨pre,hS,hi,hr⟩:=h;exact ⟨some .ret,_,run_endLoop hr.1 (by simp[R]),hstop _ pre _ (Nat.le_refl _) hS (xput _ hr hi) (hr.put (r':=R .exhausted (some .ret))).2⟩
end Go.Proofs.YtebkgbmijocdjaaGreat.Tp
namespace Go.Proofs.YtebkgbmijocdjaaGreat.Tp
open Go Go.RowKit Go.Shelf
attribute [local go_sem] Oper.semAt_some
structure Plc where
 node:Int
 time:Int
 hop:Hop
abbrev plV (x:Plc):Array Value := #[.agg #[.int .i64 x.node,.int .i64 x.time],.agg #[.int .i64 x.hop.ct,.int .i64 x.hop.beg,.int .i64 x.hop.fin,.int .i64 x.hop.arr]]
def plcF (p:Pln):Int→Int→List Hop→List Plc
 | _,_, [] => []
 | n,a,h :: l=>⟨n,a,h⟩ :: (if 0≤h.ct then (match p.c[h.ct.toNat]? with | some c=>plcF p c.dst h.arr l | none => []) else [])
def KpT (n₀:Nat)(W W':World):Prop:=Below n₀ W W' ∧ ∀k cs t,(t=158∨t=41∨t=25∨t=31∨t=37)→Bk W k t cs→Bk W' k t cs
theorem KpT.trans {n₀:Nat}{A B C:World}(h:KpT n₀ A B)(h':KpT n₀ B C):KpT n₀ A C:=⟨h.1.trans h'.1,fun k cs t ht hb=>h'.2 k cs t ht (h.2 k cs t ht hb)⟩
theorem KpT.refl (n₀:Nat)(W:World):KpT n₀ W W:=⟨Below.refl _ _,fun _ _ _ _ h=>h⟩
theorem Xru {n₀:Nat}{w:World}(hn:n₀ ≤ w.heap.size)(W:World)(l:Nat)(o o':Obj)(hl:w.heap.size≤l)(h:W.heap[l]? = some o)(hc:o.isCells=false) (_:o.isWalk=false):KpT n₀ W (W.putObj l o'):=by
 refine ⟨⟨rfl,rfl,rfl,by simp,fun k hk=>World.putObj_heap_other (by omega)⟩,fun k cs t _ hb=>?_⟩
 by_cases e:k=l
 ·subst e;rw[show W.heap[k]? = some _ from hb] at h;cases h;cases hc
 ·exact (World.putObj_heap_other e).trans hb
theorem KpT.of_below {n₀:Nat}{W W':World}(hb:Below W.heap.size W W')(hn:n₀ ≤ W.heap.size):KpT n₀ W W':=⟨hb.mono hn,fun _ _ _ _ h=>h.below hb h.lt⟩
theorem Xo9 (n:Nat)(hn:1≤n)(l n₀ Bq Bl Bp:Nat)(A:Option Addr)(cA:Nat)(hs:List Hop)(Aq:Option Addr)(cq:Nat)(Ac:Option Addr)(cc:Nat)(p:Pln)(q:Rq)(J Jx:List Plc→World→Prop)
  (W:World) (hW:n₀ ≤ W.heap.size) (hJb:Xfu W.heap.size J) (hJa:AbidesFrom W.heap.size J)
  (hY:∀(pre:List Plc) (x:Plc) (W1:World),J pre W1→pre ++ [x] <+: plcF p q.src q.ready hs→W.heap.size<W1.heap.size→pre.length<1000000→YieldAt Fence.wide (n - 1) Tryz.prog l (plV x) W1 fun e W' =>
    (e = .returned (.bool true)∧J (pre ++ [x]) W' ∧ KpT n₀ W1 W')∨(e = .returned (.bool false)∧Jx (pre ++ [x]) W'))
  (hq:Bk W Bq 31 (rqL q).toArray) (hl:Bk W Bl 37 #[.slice A hs.length cA]) (hp:Bk W Bp 25 (plA Aq cq Ac cc p))
  (hpp:∀W',Below n₀ W W' → Xas W' Aq cq Ac cc p) (hsl:∀W',Below n₀ W W' → SlAt hpE W' A hs) (hln:hs.length≤100000) (h0:J [] W) :
  CallsIn Fence.wide n Tryz.prog 144 #[.func (.yield l) #[] #[],.pointer (some ⟨Bq,0,none⟩),.pointer (some ⟨Bl,0,none⟩),.pointer (some ⟨Bp,0,none⟩)] W fun e W' => (∃v,e = .returned v) ∧
   ((∃xs,xs=plcF p q.src q.ready hs∧J xs W')∨(∃pre,pre <+: plcF p q.src q.ready hs∧Jx pre W')):=by
 have c0:=hq.n0;have c3:=hq.n3;have d0:(W.alloc (.cells #[.int .i64 q.src,.int .i64 q.ready] 158)).cell? ⟨Bl,0,none⟩=some (.slice A hs.length cA):=(hl.alloc _).cell 0;have HA:Hid (Bk (W.alloc (.cells #[.int .i64 q.src,.int .i64 q.ready] 158)) W.heap.size 158 #[.int .i64 q.src,.int .i64 q.ready]):=Bk.new _ _ _;have HP:=Lib.hid (hp.alloc (.cells #[.int .i64 q.src,.int .i64 q.ready] 158));have HJ0:Hid (J [] (W.alloc (.cells #[.int .i64 q.src,.int .i64 q.ready] 158))):=hJa _ _ _ none h0 (World.grownBy_alloc _ _ _) (fun r e=>by cases e)
 have HBW:Hid (Below n₀ W (W.alloc (.cells #[.int .i64 q.src,.int .i64 q.ready] 158))):=(Below.refl _ _).alloc hW _;have HPP:=Lib.hid hpp;have HSL:=Lib.hid hsl;have HY:=Lib.hid hY;have HJB:=Lib.hid hJb;have HJA:=Lib.hid hJa;clear h0 hq hl hp hpp hsl hY hJb hJa;refine callsIn_of_wp Tryz.func144 rfl trivial ?_ rfl;simp only[Tryz.ntmps144,List.size_toArray,List.length_cons,List.length_nil,Nat.reduceAdd,Nat.reduceSub,Array.replicate_succ,Array.replicate_zero,List.push_toArray,List.append_toArray,List.nil_append,List.cons_append]
 gi_wp2
 have HBR:Hid (Below n₀ W W):=Below.refl _ _;clear c0 c3 d0;generalize hW0:W.alloc (.cells #[.int .i64 q.src,.int .i64 q.ready] 158)=W0 at HA HP HJ0 HBW ⊢;have HZ:Hid (n₀ ≤ W.heap.size∧W.heap.size<W0.heap.size):=⟨hW,by rw[←hW0]; simp⟩
 clear hW0;generalize hTW:W.heap.size=T at HA HJB HJA HZ hW ⊢
 gi_loopw [7,15] (fun _ i wr => ∃(k:Nat) (pre:List Plc) (nd at_:Int),k≤hs.length∧i = .int .i64 k∧pre ++ plcF p nd at_ (hs.drop k)=plcF p q.src q.ready hs∧pre.length=k∧J pre wr∧Below n₀ W wr∧n₀ ≤ wr.heap.size∧Bk wr T 158 #[.int .i64 nd,.int .i64 at_] ∧ Bk wr Bp 25 (plA Aq cq Ac cc p)) (fun _ i _=>hs.length - (intOf i).toNat)
 case atStart=>exact ⟨0, [],q.src,q.ready,Nat.zero_le _,rfl,rfl,rfl,HJ0.out,HBW.out,by have:=HZ.out; omega,HA.out,HP.out⟩
 case round =>
  obtain ⟨k,pre,nd,at_,hk,rfl,hpre,hpl,hJ,hbw,hnw,hbt,hbp⟩:=hrel;have HPRE:=Lib.hid hpre;have HPL:=Lib.hid hpl;have HBW2:=Lib.hid hbw;have HBT:=Lib.hid hbt;have HBP:=Lib.hid hbp;clear hpre hpl hbw hbt hbp HJ0 HBW HA HP
  by_cases hlt:k<hs.length
  ·obtain ⟨b,off,rfl,hr⟩:=(HSL.out wr HBW2.out).one (by omega)
   obtain ⟨h,hrk⟩:∃h,hs[k]? = some h:=⟨_,List.getElem?_eq_getElem hlt⟩;have hrg:wr.rangeAt b (off+k * 4) (hpE.f h):=hr k h hrk;obtain ⟨c0,c1,c2,c3⟩:=Tp.rgHp hrg;have t0:(wr.alloc (.cells #[.int .i64 h.ct,.int .i64 h.beg,.int .i64 h.fin,.int .i64 h.arr] 41)).cell? ⟨T,0,none⟩=some (.int .i64 nd):=(HBT.out.alloc _).cell 0;have t1:(wr.alloc (.cells #[.int .i64 h.ct,.int .i64 h.beg,.int .i64 h.fin,.int .i64 h.arr] 41)).cell? ⟨T,1,none⟩=some (.int .i64 at_):=(HBT.out.alloc _).cell 1;have HH:Hid (Bk (wr.alloc (.cells #[.int .i64 h.ct,.int .i64 h.beg,.int .i64 h.fin,.int .i64 h.arr] 41)) wr.heap.size 41 #[.int .i64 h.ct,.int .i64 h.beg,.int .i64 h.fin,.int .i64 h.arr]):=Bk.new _ _ _;have HT2:=Lib.hid (HBT.out.alloc (.cells #[.int .i64 h.ct,.int .i64 h.beg,.int .i64 h.fin,.int .i64 h.arr] 41));have HP2:=Lib.hid (HBP.out.alloc (.cells #[.int .i64 h.ct,.int .i64 h.beg,.int .i64 h.fin,.int .i64 h.arr] 41));have HB2:Hid (Below n₀ W (wr.alloc (.cells #[.int .i64 h.ct,.int .i64 h.beg,.int .i64 h.fin,.int .i64 h.arr] 41))):=HBW2.out.alloc hnw _;have HDR:Hid (hs.drop k=h :: hs.drop (k+1)):=by
    obtain ⟨h1,h2⟩:=List.getElem?_eq_some_iff.1 hrk;show _=_;rw[List.drop_eq_getElem_cons h1,h2]
   have hJ2:J pre (wr.alloc (.cells #[.int .i64 h.ct,.int .i64 h.beg,.int .i64 h.fin,.int .i64 h.arr] 41)):=HJA.out _ _ _ none hJ (World.grownBy_alloc _ _ _) (fun r e=>by cases e)
   have HPS:Hid (pre ++ (⟨nd,at_,h⟩ :: (if 0≤h.ct then (match p.c[h.ct.toNat]? with | some c=>plcF p c.dst h.arr (hs.drop (k+1)) | none => [])  else []))=plcF p q.src q.ready hs):=by
    have h1:=HPRE.out;rw[HDR.out] at h1;exact h1
   have HPF:Hid (pre ++ [⟨nd,at_,h⟩] <+: plcF p q.src q.ready hs):=⟨_,by rw[List.append_assoc]; exact HPS.out⟩
   obtain ⟨fn,tmps,assign,body,hy,hR⟩:=HY.out pre ⟨nd,at_,h⟩ _ hJ2 HPF.out (by rw[hTW]; exact HT2.out.lt) (by rw[HPL.out]; omega)
   dsimp only[plV] at hy
   clear hr hrk hrg hJ hJ2
   gi_wp2_with fail
   refine hR.mono ?_;clear hR hy;clear HPRE HDR c0 c1 c2 c3 t0 t1;generalize wr.alloc (.cells #[.int .i64 h.ct,.int .i64 h.beg,.int .i64 h.fin,.int .i64 h.arr] 41)=W2 at HH HT2 HP2 HB2 ⊢;rintro e W3 (⟨rfl,hJ3,hk3⟩ | ⟨rfl,hJx3⟩)
   ·have HB3:Hid (Below n₀ W W3):=HB2.out.trans hk3.1;have HH3:Hid (Bk W3 wr.heap.size 41 #[.int .i64 h.ct,.int .i64 h.beg,.int .i64 h.fin,.int .i64 h.arr]):=hk3.2 _ _ _ (.inr (.inl rfl)) HH.out;have HT3:Hid (Bk W3 T 158 #[.int .i64 nd,.int .i64 at_]):=hk3.2 _ _ _ (.inl rfl) HT2.out;have HP3:Hid (Bk W3 Bp 25 (plA Aq cq Ac cc p)):=hk3.2 _ _ _ (.inr (.inr (.inl rfl))) HP2.out;have HZ3:Hid (n₀ ≤ W3.heap.size):=by
     have h1:=hk3.1.size;have h2:=HH.out.lt;show _≤_;omega
    have HJ3:=Lib.hid hJ3;have hq0:=HH3.out.n0;have hq3:=HH3.out.n3;have hp1:=HP3.out.n1;have hf0:=HT3.out.f2;have ht0:=HT3.out.c2;have hcm:p.c.length≤9223372036854775807:=(HPP.out W HBR.out).cm;clear hJ3 hk3 HH HT2 HP2
    by_cases hneg:h.ct<0
    ·have HF:Hid (pre ++ [⟨nd,at_,h⟩] = plcF p q.src q.ready hs):=by
      show _=_;rw[←HPS.out,if_neg (by omega)]
     gi_wp2
     refine bodyPost_ret (results_none rfl _ _ _) rfl ?_;exact ⟨⟨_,rfl⟩,.inl ⟨_,HF.out,HJ3.out⟩⟩
    ·obtain ⟨m,hm⟩:∃m:Nat,h.ct=(m:Int):=⟨h.ct.toNat,by omega⟩
     by_cases hge:m<p.c.length
     ·obtain ⟨c,hc⟩:∃c,p.c[m]? = some c:=⟨_,List.getElem?_eq_getElem hge⟩;obtain ⟨bc,oc,rfl,hrc⟩:=(HPP.out W3 HB3.out).c.one (by omega)
      have hcd:W3.cell? ⟨bc,oc+m * 7+1,none⟩=some (.int .i64 c.dst):=hrc m c hc 1 _ rfl;have hcdd:W3.drew.cell? ⟨bc,oc+m * 7+1,none⟩=some (.int .i64 c.dst):=hcd;have HF:Hid ((pre ++ [⟨nd,at_,h⟩]) ++ plcF p c.dst h.arr (hs.drop (k+1))=plcF p q.src q.ready hs):=by
       show _=_;rw[←HPS.out,if_pos (by omega),hm,Int.toNat_natCast,hc,List.append_assoc]
       rfl
      rw[hm] at hq0;have hmi:(0:Int)≤(m:Int):=by omega
      have hml:(m:Int)<(p.c.length:Int):=by omega
      clear hc hrc hneg
      gi_wp2_with fail
      have HFIN:Hid (J (pre ++ [⟨nd,at_,h⟩]) ((W3.setCell ⟨T,0,none⟩ (.int .i64 c.dst)).setCell ⟨T,1,none⟩ (.int .i64 h.arr)).drew∧Below n₀ W ((W3.setCell ⟨T,0,none⟩ (.int .i64 c.dst)).setCell ⟨T,1,none⟩ (.int .i64 h.arr)).drew∧n₀ ≤ ((W3.setCell ⟨T,0,none⟩ (.int .i64 c.dst)).setCell ⟨T,1,none⟩ (.int .i64 h.arr)).drew.heap.size∧Bk ((W3.setCell ⟨T,0,none⟩ (.int .i64 c.dst)).setCell ⟨T,1,none⟩ (.int .i64 h.arr)).drew T 158 #[.int .i64 c.dst,.int .i64 h.arr] ∧ Bk ((W3.setCell ⟨T,0,none⟩ (.int .i64 c.dst)).setCell ⟨T,1,none⟩ (.int .i64 h.arr)).drew Bp 25 #[.slice Aq p.q.length cq,.slice (some ⟨bc,oc,none⟩) p.c.length cc]):=by
       have hTp:Bp ≠ T:=fun e=>by
        have h1:=HP3.out;rw[e] at h1;have:=(show W3.heap[T]? = some _ from h1).symm.trans HT3.out;simp at this
       have j1:=HJB.out _ _ 1 (.int .i64 h.arr) (HJB.out _ _ 0 (.int .i64 c.dst) HJ3.out);refine ⟨HJA.out _ _ _ none j1 ⟨rfl,rfl,rfl,Nat.le_refl _,fun _ _ _=>rfl⟩ (fun r e=>by cases e),(((HB3.out.setCell (p:=⟨T,0,none⟩) HZ.out.1 _).setCell (p:=⟨T,1,none⟩) HZ.out.1 _).drew),?_,?_,?_⟩
       ·have:=HZ3.out;show n₀ ≤ ((W3.setCell ⟨T,0,none⟩ (.int .i64 c.dst)).setCell ⟨T,1,none⟩ (.int .i64 h.arr)).heap.size;simp[World.setCell]; omega
       ·exact (HT3.out.put 0 (.int .i64 c.dst)).put 1 (.int .i64 h.arr)
       ·exact (HP3.out.other (p:=⟨T,0,none⟩) hTp _).other (p:=⟨T,1,none⟩) hTp _
      gi_region
      gi_wp2
      go_roundw
      case rel=>exact ⟨k+1,_,c.dst,h.arr,by omega,by go_num,HF.out,by rw[List.length_append,HPL.out]; rfl,HFIN.out.1,HFIN.out.2.1,HFIN.out.2.2.1,HFIN.out.2.2.2.1,HFIN.out.2.2.2.2⟩
      case measure=>simp[intOf]; omega
     ·have HF:Hid (pre ++ [⟨nd,at_,h⟩] = plcF p q.src q.ready hs):=by
       show _=_;rw[←HPS.out,if_pos (by omega),hm,Int.toNat_natCast,List.getElem?_eq_none (by omega)]
      rw[hm] at hq0
      gi_wp2
      refine bodyPost_ret (results_none rfl _ _ _) rfl ?_;exact ⟨⟨_,rfl⟩,.inl ⟨_,HF.out,HJ3.out⟩⟩
   ·gi_wp2
    refine bodyPost_ret (results_none rfl _ _ _) rfl ?_;exact ⟨⟨_,rfl⟩,.inr ⟨_,HPF.out,hJx3⟩⟩
  ·have HF:Hid (pre=plcF p q.src q.ready hs):=by
    have h1:=HPRE.out;rw[List.drop_of_length_le (by omega)] at h1
    show _=_;simpa[plcF] using h1
   have HJ:=Lib.hid hJ;clear hJ
   gi_wp2
   go_end0;exact ⟨⟨_,rfl⟩,.inl ⟨_,HF.out,HJ.out⟩⟩
def plcW (w:World)(Aq:Option Addr)(cq:Nat)(Ac:Option Addr)(cc:Nat)(p:Pln)(q:Rq)(A:Option Addr)(cA:Nat)(hs:List Hop):World :=
 ((w.alloc (.cells (plA Aq cq Ac cc p) 25)).alloc (.cells (rqL q).toArray 31)).alloc (.cells #[.slice A hs.length cA] 37)
theorem Xpy (n:Nat)(Aq:Option Addr)(cq:Nat)(Ac:Option Addr)(cc:Nat)(p:Pln)(q:Rq)(A:Option Addr)(cA:Nat)(hs:List Hop)(w:World) :
  CallsIn Fence.wide n Tryz.prog 78 #[.agg (plA Aq cq Ac cc p),.agg (rqA q),.slice A hs.length cA] w fun e w' => e = .returned (.func (.func 144) #[] #[.pointer (some ⟨w.heap.size+1,0,none⟩),.pointer (some ⟨w.heap.size+2,0,none⟩),.pointer (some ⟨w.heap.size,0,none⟩)])∧w' = plcW w Aq cq Ac cc p q A cA hs:=by
 refine callsIn_of_wp Tryz.func78 rfl trivial ?_ rfl;simp only[Tryz.ntmps78,List.size_toArray,List.length_cons,List.length_nil,Nat.reduceAdd,Nat.reduceSub,Array.replicate_succ,Array.replicate_zero,List.push_toArray,List.append_toArray,List.nil_append,List.cons_append];have hmf:=fun (fn:Fn) (first cap:Array Value) (w:World)=>(rfl:(Instr.makeFunc fn first cap).run Tryz.prog w = .ok (.func fn first cap) w)
 gi_wp2
 go_ret;exact ⟨rfl,rfl⟩
theorem Xri (w:World)(Aq:Option Addr)(cq:Nat)(Ac:Option Addr)(cc:Nat)(p:Pln)(q:Rq)(A:Option Addr)(cA:Nat)(hs:List Hop):Bk (plcW w Aq cq Ac cc p q A cA hs) w.heap.size 25 (plA Aq cq Ac cc p)∧Bk (plcW w Aq cq Ac cc p q A cA hs) (w.heap.size+1) 31 (rqL q).toArray∧Bk (plcW w Aq cq Ac cc p q A cA hs) (w.heap.size+2) 37 #[.slice A hs.length cA] ∧ Below w.heap.size w (plcW w Aq cq Ac cc p q A cA hs)∧(plcW w Aq cq Ac cc p q A cA hs).heap.size=w.heap.size+3:=by
 unfold plcW;refine ⟨((Bk.new w _ _).alloc _).alloc _,?_,?_,(((Below.refl _ _).alloc (Nat.le_refl _) _).alloc (by simp) _).alloc (by simp; omega) _,by simp⟩
 ·have h:=Bk.new (w.alloc (.cells (plA Aq cq Ac cc p) 25)) 31 (rqL q).toArray;rw[World.size_alloc] at h;exact h.alloc _
 ·have h:=Bk.new ((w.alloc (.cells (plA Aq cq Ac cc p) 25)).alloc (.cells (rqL q).toArray 31)) 37 #[.slice A hs.length cA]
  rwa [World.size_alloc,World.size_alloc] at h
theorem Xl4 (n:Nat)(hn:1≤n)(n₀ Bq Bl Bp:Nat)(A:Option Addr)(cA:Nat)(hs:List Hop)(Aq:Option Addr)(cq:Nat)(Ac:Option Addr)(cc:Nat)(p:Pln)(q:Rq)(w0:World)(hn0:n₀ ≤ w0.heap.size)
  (hq:Bk w0 Bq 31 (rqL q).toArray) (hl:Bk w0 Bl 37 #[.slice A hs.length cA]) (hp:Bk w0 Bp 25 (plA Aq cq Ac cc p))
  (hpp:∀W',Below n₀ w0 W' → Xas W' Aq cq Ac cc p) (hsl:∀W',Below n₀ w0 W' → SlAt hpE W' A hs) (hln:hs.length≤100000) :
  Xk6 Fence.wide n Tryz.prog 144 #[.pointer (some ⟨Bq,0,none⟩),.pointer (some ⟨Bl,0,none⟩),.pointer (some ⟨Bp,0,none⟩)] plV (KpT n₀) (fun xs=>xs=plcF p q.src q.ready hs) (fun pre=>pre <+: plcF p q.src q.ready hs) 1000000 w0:=by
 intro l J Jx W hW hJ _ hJb hY h0;exact Xo9 n hn l n₀ Bq Bl Bp A cA hs Aq cq Ac cc p q J Jx W (Nat.le_trans hn0 hW.size) hJb hJ hY (hq.below hW hq.lt) (hl.below hW hl.lt) (hp.below hW hp.lt) (fun W' hb=>hpp W' ((hW.mono hn0).trans hb)) (fun W' hb=>hsl W' ((hW.mono hn0).trans hb)) hln h0
end Go.Proofs.YtebkgbmijocdjaaGreat.Tp
