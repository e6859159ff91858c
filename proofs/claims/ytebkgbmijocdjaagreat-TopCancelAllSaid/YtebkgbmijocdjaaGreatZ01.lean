/- A part of the proof for the ledger. No condition beyond those that each theorem states. -/
import Derived.WalkKit
import Derived.ProofKit
import Derived.Handy
import Derived.Lib.Hide
import Derived.WalkSpells
import Derived.WalkLawsBesides
import Derived.Maps.AppendAt
import Derived.RangeFuncBox
import Derived.IntWalk
import Derived.OwnWalk
import Derived.Deep.QuietTactic
import Derived.BigQuiet
import Derived.Deep.RegionHeld3
import Derived.Test.YtebkgbmijocdjaaGreatRows
set_option maxHeartbeats 32000000
set_option maxRecDepth 100000
set_option linter.unusedVariables false
set_option linter.unusedSimpArgs false
namespace Go.Proofs.YtebkgbmijocdjaaGreat
open Go Go.RowKit Go.ChangeShapes Go.WideShapes Go.ChangeAt
def Bk (w:World)(g:Nat)(t:TypeId)(cs:Array Value):Prop:=w.heap[g]? = some (.cells cs t (0,0))
theorem Bk.lt {w:World}{g:Nat}{t:TypeId}{cs:Array Value}(h:Bk w g t cs):g<w.heap.size :=
 (Array.getElem?_eq_some_iff.1 (show w.heap[g]? = some _ from h)).1
theorem Bk.cell {w:World}{g:Nat}{t:TypeId}{cs:Array Value}(h:Bk w g t cs)(i:Nat):w.cell? ⟨g,i,none⟩=cs[i]? := by
 unfold Bk at h; simp[World.cell?,h]
theorem Bk.free {w:World}{g:Nat}{t:TypeId}{cs:Array Value}(h:Bk w g t cs)(i:Nat):w.frozen? ⟨g,i,none⟩=false:=by
 unfold Bk at h; simp[World.frozen?,h]
theorem Bk.new (w:World)(t:TypeId)(cs:Array Value):Bk (w.alloc (.cells cs t)) w.heap.size t cs:=heap_alloc_new w _
theorem Bk.drewN {w:World}{g:Nat}{t:TypeId}{cs:Array Value}(h:Bk w g t cs)(n:Nat):Bk (w.drewN n) g t cs:=h
theorem Bk.alloc {w:World}{g:Nat}{t:TypeId}{cs:Array Value}(h:Bk w g t cs)(o:Obj):Bk (w.alloc o) g t cs:=(Below.heap_alloc w o g h.lt).trans h
theorem Bk.put {w:World}{g:Nat}{t:TypeId}{cs:Array Value}(h:Bk w g t cs)(i:Nat)(u:Value):Bk (w.setCell ⟨g,i,none⟩ u) g t (cs.setIfInBounds i u):=by
 unfold Bk at h ⊢; simp[World.setCell,Array.getElem?_modify,h]
theorem Bk.other {w:World}{g:Nat}{t:TypeId}{cs:Array Value}(h:Bk w g t cs){p:Addr}(hp:g ≠ p.block)(u:Value):Bk (w.setCell p u) g t cs:=(Below.heap_setCell w p u g hp).trans h
theorem Bk.below {w w':World}{g B:Nat}{t:TypeId}{cs:Array Value}(h:Bk w g t cs)(hb:Below B w w')(hg:g<B):Bk w' g t cs:=(hb.block g hg).trans h
theorem Bk.grown {w w':World}{g:Nat}{t:TypeId}{cs:Array Value}{row:Option Nat}(h:Bk w g t cs)(hb:w.grownBy w' row)(hne:some g ≠ row):Bk w' g t cs:=(hb.block g h.lt hne).trans h
theorem grown_below {a w:World}(h:Below a.heap.size a w)(row:Option Nat):a.grownBy w row:=⟨h.os,h.tape,h.output,h.size,fun i hi _=>h.block i hi⟩
theorem Xa0 (w:World)(g i:Nat)(u:Value):w.grownBy (w.setCell ⟨g,i,none⟩ u) (some g) :=
 ⟨rfl,rfl,rfl,by simp[World.setCell],fun k _ hne=>Below.heap_setCell _ _ _ _ (fun e=>hne (by rw[e]))⟩
theorem below_grown {a w w':World}{B g:Nat}(h:Below B a w)(k:w.grownBy w' (some g))(hB:B≤g)(hs:B≤w.heap.size):Below B a w' :=
 h.grown k hs (fun _ e=>by cases e; exact hB)
theorem Xa4 {B:Nat}{a w:World}(h:Below B a w)(n:Nat):Below B a (w.drewN n):=⟨h.os,h.tape,h.output,h.size,h.block⟩
theorem Xh2 {k:IntKind}{a b:Int}(h:a=b):Ending.returned (.int k a) = .returned (.int k b):=by rw[h]
theorem Xe0 {a b:Bool}(h:a=b):Ending.returned (.bool a) = .returned (.bool b):=by rw[h]
def Xd (P:Prop)(w:World)(e:Ending)(w':World):Prop:=∃q:Int,e = .returned (.int .i64 q)∧(q=0↔P)∧Below w.heap.size w w'
theorem Xbf {P:Prop}{w w':World}(h:P)(hb:Below w.heap.size w w'):Xd P w (.returned (.int .i64 0)) w':=⟨0,rfl,⟨fun _=>h,fun _=>rfl⟩,hb⟩
theorem Xa2 {P:Prop}{w w':World}{q:Int}(hq:q ≠ 0)(h:¬ P)(hb:Below w.heap.size w w'):Xd P w (.returned (.int .i64 q)) w':=⟨q,rfl,⟨fun c=>absurd c hq,fun c=>absurd c h⟩,hb⟩
def Xap (P:Prop)(w:World)(e:Ending)(w':World):Prop:=∃b:Bool,e = .returned (.bool b)∧(b=true↔P)∧Below w.heap.size w w'
theorem Xaf {P:Prop}{w w':World}{b:Bool}(h:b=true↔P)(hb:Below w.heap.size w w'):Xap P w (.returned (.bool b)) w':=⟨b,rfl,h,hb⟩
structure Enc (α:Type) where
 k:Nat
 f:α → List Value
 len:∀x,(f x).length=k
 one:∀x,∀v ∈ f x,v.oneCell' = true
def SlAt {α:Type}(E:Enc α)(w:World)(A:Option Addr)(l:List α):Prop:=∀j r,l[j]? = some r → ∃b off,A=some ⟨b,off,none⟩∧w.rangeAt b (off+j * E.k) (E.f r)
section
variable {α:Type} {E:Enc α}
theorem Xa3 {w w':World}{b o:Nat}{cs:List Value}(h:w.rangeAt b o cs)(hb:Below w.heap.size w w'):w'.rangeAt b o cs:=fun j v hv =>
 (hb.cell (p:=⟨b,o+j,none⟩) (World.block_lt_of_cell? _ _ (h j v hv))).trans (h j v hv)
theorem Xqv {w w':World}{a:Addr}(h:w'.heap=w.heap):w'.cell? a=w.cell? a:=by unfold World.cell?; rw[h]
theorem Xo6 {w w':World}{b o:Nat}{cs:List Value}(h:w'.heap=w.heap)(hr:w.rangeAt b o cs):w'.rangeAt b o cs:=fun j v hv=>(Xqv h).trans (hr j v hv)
theorem SlAt.below {w w':World}{A:Option Addr}{l:List α}(h:SlAt E w A l)(hb:Below w.heap.size w w'):SlAt E w' A l:=fun k r hk=>by
 obtain ⟨b,off,hA,hr⟩:=h k r hk;exact ⟨b,off,hA,Xa3 hr hb⟩
theorem SlAt.nil (w:World)(A:Option Addr):SlAt E w A []:=fun k r h=>by simp at h
theorem SlAt.heap {w w':World}{A:Option Addr}{l:List α}(h:SlAt E w A l)(he:w'.heap=w.heap):SlAt E w' A l:=fun k r hk=>by
 obtain ⟨b,off,hA,hr⟩:=h k r hk;exact ⟨b,off,hA,Xo6 he hr⟩
theorem SlAt.take {w:World}{A:Option Addr}{l:List α}(h:SlAt E w A l)(n:Nat):SlAt E w A (l.take n):=fun k r hk=>h k r (by
 rw[List.getElem?_take] at hk
 split at hk
 ·exact hk
 ·simp at hk)
theorem SlAt.one {w:World}{A:Option Addr}{l:List α}(h:SlAt E w A l)(hl:0<l.length):∃b off,A=some ⟨b,off,none⟩ ∧ ∀k r,l[k]? = some r→w.rangeAt b (off+k * E.k) (E.f r):=by
 obtain ⟨b,off,hA,_⟩:=h 0 l[0] (List.getElem?_eq_getElem hl);refine ⟨b,off,hA,fun k r hk=>?_⟩;obtain ⟨b',off',hA',hr⟩:=h k r hk;rw[hA] at hA';cases hA';exact hr
theorem flat_get:∀(L:List α)(k:Nat)(r:α),L[k]? = some r → ∀j v,(E.f r)[j]? = some v→(L.flatMap E.f)[k * E.k+j]? = some v
 | [],k,r,h,_,_,_=>by simp at h
 | x :: L,0,r,h,j,v,hv=>by
   simp only[List.getElem?_cons_zero,Option.some.injEq] at h;subst h;have hj:j<(E.f x).length:=(List.getElem?_eq_some_iff.1 hv).1;rw[List.flatMap_cons,Nat.zero_mul,Nat.zero_add,List.getElem?_append_left hj];exact hv
 | x :: L,k+1,r,h,j,v,hv=>by
   have hl:=E.len x;have e:(k+1) * E.k+j=E.k+(k * E.k+j):=by rw[Nat.succ_mul]; omega
   rw[List.flatMap_cons,e,List.getElem?_append_right (by omega),hl,Nat.add_sub_cancel_left]
   exact flat_get L k r (by simpa using h) j v hv
theorem Xan:∀L:List α,(L.flatMap E.f).length=L.length * E.k
 | [] => by simp
 | x :: L=>by
   rw[List.flatMap_cons,List.length_append,Xan L,List.length_cons,E.len,Nat.succ_mul]; omega
theorem Xah {w:World}{base:Nat}{t:TypeId}{v:Value}{L:List α}(h:w.ownsRow base t E.k v L.length (L.flatMap E.f)):∃A c,v = .slice A L.length c∧SlAt E w A L∧L.length≤c:=by
 have hc:=fun g hg=>h.cells (g:=g) hg;rcases h.2 with ⟨rfl,h0⟩ | ⟨g,cap,cur,rfl,_,_,hcap,_⟩
 ·have:L = []:=List.eq_nil_of_length_eq_zero h0;subst this;exact ⟨none,0,rfl,SlAt.nil _ _,Nat.le_refl _⟩
 ·refine ⟨_,cap,rfl,fun k r hk=>⟨g,0,rfl,fun j u hu=>?_⟩,hcap⟩;have:=hc g rfl _ u (flat_get L k r hk j u hu);rw[Addr.add_mid] at this;rw[Nat.add_assoc];exact this
theorem Xa6 {w W:World}{base:Nat}{t:TypeId}{k n:Nat}{v:Value}{xs:List Value}(h:w.ownsRow base t k v n xs)(hb:Below w.heap.size w W):W.ownsRow base t k v n xs :=
 h.kept (grown_below hb none) (by
  cases hv:v.ownBlock with
  | none=>exact Or.inl rfl
  | some g=>exact Or.inr (by simp))
theorem SlAt.tail {w:World}{b off:Nat}{l:List α}(h:SlAt E w (some ⟨b,off,none⟩) l)(k:Nat):SlAt E w (some ⟨b,off+k * E.k,none⟩) (l.drop k):=fun j r hj=>by
 rw[List.getElem?_drop] at hj;obtain ⟨b',off',hA,hr⟩:=h (k+j) r hj;cases hA;refine ⟨b,off+k * E.k,rfl,?_⟩;rw[show off+k * E.k+j * E.k=off+(k+j) * E.k by rw[Nat.add_mul]; omega]
 exact hr
end
theorem take_snoc {α:Type}{l:List α}{k:Nat}{r:α}(h:l[k]? = some r):l.take (k+1)=l.take k ++ [r]:=by
 obtain ⟨hk,he⟩:=List.getElem?_eq_some_iff.1 h;rw[List.take_succ_eq_append_getElem hk,he]
theorem Xa7 {S:World→Prop}{W w':World}(HD:Hid (∀w',Below W.heap.size W w' → S w'))(h:Below W.heap.size W w'):S w' ∧ Hid (Below W.heap.size W w'):=⟨HD.out _ h,h⟩
theorem Xaw {S:World→Prop}{W w' w4:World}(HD:Hid (∀w',Below W.heap.size W w' → S w'))(h:Hid (Below W.heap.size W w'))(hb:Below w'.heap.size w' w4):S w4∧Hid (Below W.heap.size W w4) :=
 Xa7 HD (h.out.trans (hb.mono h.out.size))
theorem Xqx {w w4:World}{o:Obj}(h:w4=w.alloc o):Below w.heap.size w w4:=by rw[h]; exact (Below.refl _ _).alloc (Nat.le_refl _) _
theorem Xa {w w1 w2:World}(h:Below w.heap.size w w1)(hb:Below w1.heap.size w1 w2):Below w.heap.size w w2:=h.trans (hb.mono h.size)
theorem Bk.back {w w' : World} {g : Nat} {t : TypeId} {cs : Array Value} (h : Bk w g t cs) (e : w' = w) : Bk w' g t cs := e ▸ h
theorem Bk.c2 {w : World} {g : Nat} {t : TypeId} {v0 v1 : Value} {l : List Value} (h : Bk w g t (v0 :: v1 :: l).toArray) : w.cell? ⟨g, 0, none⟩ = some v0 ∧ w.cell? ⟨g, 1, none⟩ = some v1 := ⟨h.cell 0, h.cell 1⟩
theorem Bk.c3 {w : World} {g : Nat} {t : TypeId} {v0 v1 v2 : Value} {l : List Value} (h : Bk w g t (v0 :: v1 :: v2 :: l).toArray) : w.cell? ⟨g, 0, none⟩ = some v0 ∧ w.cell? ⟨g, 1, none⟩ = some v1 ∧ w.cell? ⟨g, 2, none⟩ = some v2 := ⟨h.cell 0, h.cell 1, h.cell 2⟩
theorem Bk.c4 {w : World} {g : Nat} {t : TypeId} {v0 v1 v2 v3 : Value} {l : List Value} (h : Bk w g t (v0 :: v1 :: v2 :: v3 :: l).toArray) : w.cell? ⟨g, 0, none⟩ = some v0 ∧ w.cell? ⟨g, 1, none⟩ = some v1 ∧ w.cell? ⟨g, 2, none⟩ = some v2 ∧ w.cell? ⟨g, 3, none⟩ = some v3 := ⟨h.cell 0, h.cell 1, h.cell 2, h.cell 3⟩
theorem Bk.c5 {w : World} {g : Nat} {t : TypeId} {v0 v1 v2 v3 v4 : Value} {l : List Value} (h : Bk w g t (v0 :: v1 :: v2 :: v3 :: v4 :: l).toArray) : w.cell? ⟨g, 0, none⟩ = some v0 ∧ w.cell? ⟨g, 1, none⟩ = some v1 ∧ w.cell? ⟨g, 2, none⟩ = some v2 ∧ w.cell? ⟨g, 3, none⟩ = some v3 ∧ w.cell? ⟨g, 4, none⟩ = some v4 := ⟨h.cell 0, h.cell 1, h.cell 2, h.cell 3, h.cell 4⟩
theorem Bk.c6 {w : World} {g : Nat} {t : TypeId} {v0 v1 v2 v3 v4 v5 : Value} {l : List Value} (h : Bk w g t (v0 :: v1 :: v2 :: v3 :: v4 :: v5 :: l).toArray) : w.cell? ⟨g, 0, none⟩ = some v0 ∧ w.cell? ⟨g, 1, none⟩ = some v1 ∧ w.cell? ⟨g, 2, none⟩ = some v2 ∧ w.cell? ⟨g, 3, none⟩ = some v3 ∧ w.cell? ⟨g, 4, none⟩ = some v4 ∧ w.cell? ⟨g, 5, none⟩ = some v5 := ⟨h.cell 0, h.cell 1, h.cell 2, h.cell 3, h.cell 4, h.cell 5⟩
theorem Bk.c7 {w : World} {g : Nat} {t : TypeId} {v0 v1 v2 v3 v4 v5 v6 : Value} {l : List Value} (h : Bk w g t (v0 :: v1 :: v2 :: v3 :: v4 :: v5 :: v6 :: l).toArray) : w.cell? ⟨g, 0, none⟩ = some v0 ∧ w.cell? ⟨g, 1, none⟩ = some v1 ∧ w.cell? ⟨g, 2, none⟩ = some v2 ∧ w.cell? ⟨g, 3, none⟩ = some v3 ∧ w.cell? ⟨g, 4, none⟩ = some v4 ∧ w.cell? ⟨g, 5, none⟩ = some v5 ∧ w.cell? ⟨g, 6, none⟩ = some v6 := ⟨h.cell 0, h.cell 1, h.cell 2, h.cell 3, h.cell 4, h.cell 5, h.cell 6⟩
theorem Bk.c11 {w : World} {g : Nat} {t : TypeId} {v0 v1 v2 v3 v4 v5 v6 v7 v8 v9 v10 : Value} {l : List Value} (h : Bk w g t (v0 :: v1 :: v2 :: v3 :: v4 :: v5 :: v6 :: v7 :: v8 :: v9 :: v10 :: l).toArray) : w.cell? ⟨g, 0, none⟩ = some v0 ∧ w.cell? ⟨g, 1, none⟩ = some v1 ∧ w.cell? ⟨g, 2, none⟩ = some v2 ∧ w.cell? ⟨g, 3, none⟩ = some v3 ∧ w.cell? ⟨g, 4, none⟩ = some v4 ∧ w.cell? ⟨g, 5, none⟩ = some v5 ∧ w.cell? ⟨g, 6, none⟩ = some v6 ∧ w.cell? ⟨g, 7, none⟩ = some v7 ∧ w.cell? ⟨g, 8, none⟩ = some v8 ∧ w.cell? ⟨g, 9, none⟩ = some v9 ∧ w.cell? ⟨g, 10, none⟩ = some v10 := ⟨h.cell 0, h.cell 1, h.cell 2, h.cell 3, h.cell 4, h.cell 5, h.cell 6, h.cell 7, h.cell 8, h.cell 9, h.cell 10⟩
theorem Bk.f2 {w : World} {g : Nat} {t : TypeId} {cs : Array Value} (h : Bk w g t cs) : w.frozen? ⟨g, 0, none⟩ = false ∧ w.frozen? ⟨g, 1, none⟩ = false := ⟨h.free 0, h.free 1⟩
theorem Bk.f4 {w : World} {g : Nat} {t : TypeId} {cs : Array Value} (h : Bk w g t cs) : w.frozen? ⟨g, 0, none⟩ = false ∧ w.frozen? ⟨g, 1, none⟩ = false ∧ w.frozen? ⟨g, 2, none⟩ = false ∧ w.frozen? ⟨g, 3, none⟩ = false := ⟨h.free 0, h.free 1, h.free 2, h.free 3⟩
theorem Bk.f5 {w : World} {g : Nat} {t : TypeId} {cs : Array Value} (h : Bk w g t cs) : w.frozen? ⟨g, 0, none⟩ = false ∧ w.frozen? ⟨g, 1, none⟩ = false ∧ w.frozen? ⟨g, 2, none⟩ = false ∧ w.frozen? ⟨g, 3, none⟩ = false ∧ w.frozen? ⟨g, 4, none⟩ = false := ⟨h.free 0, h.free 1, h.free 2, h.free 3, h.free 4⟩
theorem Bk.f6 {w : World} {g : Nat} {t : TypeId} {cs : Array Value} (h : Bk w g t cs) : w.frozen? ⟨g, 0, none⟩ = false ∧ w.frozen? ⟨g, 1, none⟩ = false ∧ w.frozen? ⟨g, 2, none⟩ = false ∧ w.frozen? ⟨g, 3, none⟩ = false ∧ w.frozen? ⟨g, 4, none⟩ = false ∧ w.frozen? ⟨g, 5, none⟩ = false := ⟨h.free 0, h.free 1, h.free 2, h.free 3, h.free 4, h.free 5⟩
theorem Bk.f7 {w : World} {g : Nat} {t : TypeId} {cs : Array Value} (h : Bk w g t cs) : w.frozen? ⟨g, 0, none⟩ = false ∧ w.frozen? ⟨g, 1, none⟩ = false ∧ w.frozen? ⟨g, 2, none⟩ = false ∧ w.frozen? ⟨g, 3, none⟩ = false ∧ w.frozen? ⟨g, 4, none⟩ = false ∧ w.frozen? ⟨g, 5, none⟩ = false ∧ w.frozen? ⟨g, 6, none⟩ = false := ⟨h.free 0, h.free 1, h.free 2, h.free 3, h.free 4, h.free 5, h.free 6⟩
theorem Bk.f11 {w : World} {g : Nat} {t : TypeId} {cs : Array Value} (h : Bk w g t cs) : w.frozen? ⟨g, 0, none⟩ = false ∧ w.frozen? ⟨g, 1, none⟩ = false ∧ w.frozen? ⟨g, 2, none⟩ = false ∧ w.frozen? ⟨g, 3, none⟩ = false ∧ w.frozen? ⟨g, 4, none⟩ = false ∧ w.frozen? ⟨g, 5, none⟩ = false ∧ w.frozen? ⟨g, 6, none⟩ = false ∧ w.frozen? ⟨g, 7, none⟩ = false ∧ w.frozen? ⟨g, 8, none⟩ = false ∧ w.frozen? ⟨g, 9, none⟩ = false ∧ w.frozen? ⟨g, 10, none⟩ = false := ⟨h.free 0, h.free 1, h.free 2, h.free 3, h.free 4, h.free 5, h.free 6, h.free 7, h.free 8, h.free 9, h.free 10⟩
theorem Bk.n0 {w : World} {g : Nat} {t : TypeId} {v0 : Value} {l : List Value} (h : Bk w g t (v0 :: l).toArray) : w.cell? ⟨g, 0, none⟩ = some v0 := h.cell 0
theorem Bk.n1 {w : World} {g : Nat} {t : TypeId} {v0 v1 : Value} {l : List Value} (h : Bk w g t (v0 :: v1 :: l).toArray) : w.cell? ⟨g, 1, none⟩ = some v1 := h.cell 1
theorem Bk.n2 {w : World} {g : Nat} {t : TypeId} {v0 v1 v2 : Value} {l : List Value} (h : Bk w g t (v0 :: v1 :: v2 :: l).toArray) : w.cell? ⟨g, 2, none⟩ = some v2 := h.cell 2
theorem Bk.n3 {w : World} {g : Nat} {t : TypeId} {v0 v1 v2 v3 : Value} {l : List Value} (h : Bk w g t (v0 :: v1 :: v2 :: v3 :: l).toArray) : w.cell? ⟨g, 3, none⟩ = some v3 := h.cell 3
theorem Bk.n4 {w : World} {g : Nat} {t : TypeId} {v0 v1 v2 v3 v4 : Value} {l : List Value} (h : Bk w g t (v0 :: v1 :: v2 :: v3 :: v4 :: l).toArray) : w.cell? ⟨g, 4, none⟩ = some v4 := h.cell 4
theorem Bk.n5 {w : World} {g : Nat} {t : TypeId} {v0 v1 v2 v3 v4 v5 : Value} {l : List Value} (h : Bk w g t (v0 :: v1 :: v2 :: v3 :: v4 :: v5 :: l).toArray) : w.cell? ⟨g, 5, none⟩ = some v5 := h.cell 5
theorem Bk.n6 {w : World} {g : Nat} {t : TypeId} {v0 v1 v2 v3 v4 v5 v6 : Value} {l : List Value} (h : Bk w g t (v0 :: v1 :: v2 :: v3 :: v4 :: v5 :: v6 :: l).toArray) : w.cell? ⟨g, 6, none⟩ = some v6 := h.cell 6
theorem Bk.n7 {w : World} {g : Nat} {t : TypeId} {v0 v1 v2 v3 v4 v5 v6 v7 : Value} {l : List Value} (h : Bk w g t (v0 :: v1 :: v2 :: v3 :: v4 :: v5 :: v6 :: v7 :: l).toArray) : w.cell? ⟨g, 7, none⟩ = some v7 := h.cell 7
theorem Bk.n8 {w : World} {g : Nat} {t : TypeId} {v0 v1 v2 v3 v4 v5 v6 v7 v8 : Value} {l : List Value} (h : Bk w g t (v0 :: v1 :: v2 :: v3 :: v4 :: v5 :: v6 :: v7 :: v8 :: l).toArray) : w.cell? ⟨g, 8, none⟩ = some v8 := h.cell 8
theorem Bk.n9 {w : World} {g : Nat} {t : TypeId} {v0 v1 v2 v3 v4 v5 v6 v7 v8 v9 : Value} {l : List Value} (h : Bk w g t (v0 :: v1 :: v2 :: v3 :: v4 :: v5 :: v6 :: v7 :: v8 :: v9 :: l).toArray) : w.cell? ⟨g, 9, none⟩ = some v9 := h.cell 9
theorem Bk.n10 {w : World} {g : Nat} {t : TypeId} {v0 v1 v2 v3 v4 v5 v6 v7 v8 v9 v10 : Value} {l : List Value} (h : Bk w g t (v0 :: v1 :: v2 :: v3 :: v4 :: v5 :: v6 :: v7 :: v8 :: v9 :: v10 :: l).toArray) : w.cell? ⟨g, 10, none⟩ = some v10 := h.cell 10
theorem Bk.p4 {w : World} {g : Nat} {t : TypeId} {c0 c1 c2 c3 : Value} (h : Bk w g t #[c0, c1, c2, c3]) (v0 v1 v2 v3 : Value) : ∃ W, ((((w.setCell ⟨g, 0, none⟩ v0).setCell ⟨g, 1, none⟩ v1).setCell ⟨g, 2, none⟩ v2).setCell ⟨g, 3, none⟩ v3) = W ∧ Bk W g t #[v0, v1, v2, v3] ∧ w.grownBy W (some g) := ⟨_, rfl, by simpa only [List.setIfInBounds_toArray, List.set_cons_zero, List.set_cons_succ] using ((((h.put 0 v0).put 1 v1).put 2 v2).put 3 v3), (((Xa0 _ _ _ _).trans (Xa0 _ _ _ _)).trans (Xa0 _ _ _ _)).trans (Xa0 _ _ _ _)⟩
theorem Bk.p5 {w : World} {g : Nat} {t : TypeId} {c0 c1 c2 c3 c4 : Value} (h : Bk w g t #[c0, c1, c2, c3, c4]) (v0 v1 v2 v3 v4 : Value) : ∃ W, (((((w.setCell ⟨g, 0, none⟩ v0).setCell ⟨g, 1, none⟩ v1).setCell ⟨g, 2, none⟩ v2).setCell ⟨g, 3, none⟩ v3).setCell ⟨g, 4, none⟩ v4) = W ∧ Bk W g t #[v0, v1, v2, v3, v4] ∧ w.grownBy W (some g) := ⟨_, rfl, by simpa only [List.setIfInBounds_toArray, List.set_cons_zero, List.set_cons_succ] using (((((h.put 0 v0).put 1 v1).put 2 v2).put 3 v3).put 4 v4), ((((Xa0 _ _ _ _).trans (Xa0 _ _ _ _)).trans (Xa0 _ _ _ _)).trans (Xa0 _ _ _ _)).trans (Xa0 _ _ _ _)⟩
theorem Bk.p11 {w : World} {g : Nat} {t : TypeId} {c0 c1 c2 c3 c4 c5 c6 c7 c8 c9 c10 : Value} (h : Bk w g t #[c0, c1, c2, c3, c4, c5, c6, c7, c8, c9, c10]) (v0 v1 v2 v3 v4 v5 v6 v7 v8 v9 v10 : Value) : ∃ W, (((((((((((w.setCell ⟨g, 0, none⟩ v0).setCell ⟨g, 1, none⟩ v1).setCell ⟨g, 2, none⟩ v2).setCell ⟨g, 3, none⟩ v3).setCell ⟨g, 4, none⟩ v4).setCell ⟨g, 5, none⟩ v5).setCell ⟨g, 6, none⟩ v6).setCell ⟨g, 7, none⟩ v7).setCell ⟨g, 8, none⟩ v8).setCell ⟨g, 9, none⟩ v9).setCell ⟨g, 10, none⟩ v10) = W ∧ Bk W g t #[v0, v1, v2, v3, v4, v5, v6, v7, v8, v9, v10] ∧ w.grownBy W (some g) := ⟨_, rfl, by simpa only [List.setIfInBounds_toArray, List.set_cons_zero, List.set_cons_succ] using (((((((((((h.put 0 v0).put 1 v1).put 2 v2).put 3 v3).put 4 v4).put 5 v5).put 6 v6).put 7 v7).put 8 v8).put 9 v9).put 10 v10), ((((((((((Xa0 _ _ _ _).trans (Xa0 _ _ _ _)).trans (Xa0 _ _ _ _)).trans (Xa0 _ _ _ _)).trans (Xa0 _ _ _ _)).trans (Xa0 _ _ _ _)).trans (Xa0 _ _ _ _)).trans (Xa0 _ _ _ _)).trans (Xa0 _ _ _ _)).trans (Xa0 _ _ _ _)).trans (Xa0 _ _ _ _)⟩
theorem box1 (w : World) (T0 : TypeId) (c0 : Array Value) : ∃ (W : World) (n0 : Nat), (w.alloc (.cells c0 T0)) = W ∧ w.heap.size = n0 ∧ Hid (W.heap.size = n0 + 1) ∧ Hid (Below n0 w W) ∧ Hid (Bk W (n0) T0 c0) := by
  exact ⟨_, _, rfl, rfl, World.size_alloc _ _, (Below.refl _ _).alloc (Nat.le_refl _) _, Bk.new _ _ _⟩
theorem box2 (w : World) (T0 : TypeId) (c0 : Array Value) (T1 : TypeId) (c1 : Array Value) : ∃ (W : World) (n0 : Nat), ((w.alloc (.cells c0 T0)).alloc (.cells c1 T1)) = W ∧ w.heap.size = n0 ∧ Hid (W.heap.size = n0 + 1 + 1) ∧ Hid (Below n0 w W) ∧ Hid (Bk W (n0) T0 c0) ∧ Hid (Bk W (n0 + 1) T1 c1) := by
  obtain ⟨_, n0, rfl, hn, hs, hb, k0⟩ := box1 w T0 c0
  exact ⟨_, n0, rfl, hn, (World.size_alloc _ _).trans (congrArg (· + 1) hs), hb.out.alloc (by have := hs.out; omega) _, k0.out.alloc _, by have h := Bk.new (w.alloc (.cells c0 T0)) T1 c1; rw [hs.out] at h; exact h⟩
theorem box3 (w : World) (T0 : TypeId) (c0 : Array Value) (T1 : TypeId) (c1 : Array Value) (T2 : TypeId) (c2 : Array Value) : ∃ (W : World) (n0 : Nat), (((w.alloc (.cells c0 T0)).alloc (.cells c1 T1)).alloc (.cells c2 T2)) = W ∧ w.heap.size = n0 ∧ Hid (W.heap.size = n0 + 1 + 1 + 1) ∧ Hid (Below n0 w W) ∧ Hid (Bk W (n0) T0 c0) ∧ Hid (Bk W (n0 + 1) T1 c1) ∧ Hid (Bk W (n0 + 1 + 1) T2 c2) := by
  obtain ⟨_, n0, rfl, hn, hs, hb, k0, k1⟩ := box2 w T0 c0 T1 c1
  exact ⟨_, n0, rfl, hn, (World.size_alloc _ _).trans (congrArg (· + 1) hs), hb.out.alloc (by have := hs.out; omega) _, k0.out.alloc _, k1.out.alloc _, by have h := Bk.new ((w.alloc (.cells c0 T0)).alloc (.cells c1 T1)) T2 c2; rw [hs.out] at h; exact h⟩
theorem box4 (w : World) (T0 : TypeId) (c0 : Array Value) (T1 : TypeId) (c1 : Array Value) (T2 : TypeId) (c2 : Array Value) (T3 : TypeId) (c3 : Array Value) : ∃ (W : World) (n0 : Nat), ((((w.alloc (.cells c0 T0)).alloc (.cells c1 T1)).alloc (.cells c2 T2)).alloc (.cells c3 T3)) = W ∧ w.heap.size = n0 ∧ Hid (W.heap.size = n0 + 1 + 1 + 1 + 1) ∧ Hid (Below n0 w W) ∧ Hid (Bk W (n0) T0 c0) ∧ Hid (Bk W (n0 + 1) T1 c1) ∧ Hid (Bk W (n0 + 1 + 1) T2 c2) ∧ Hid (Bk W (n0 + 1 + 1 + 1) T3 c3) := by
  obtain ⟨_, n0, rfl, hn, hs, hb, k0, k1, k2⟩ := box3 w T0 c0 T1 c1 T2 c2
  exact ⟨_, n0, rfl, hn, (World.size_alloc _ _).trans (congrArg (· + 1) hs), hb.out.alloc (by have := hs.out; omega) _, k0.out.alloc _, k1.out.alloc _, k2.out.alloc _, by have h := Bk.new (((w.alloc (.cells c0 T0)).alloc (.cells c1 T1)).alloc (.cells c2 T2)) T3 c3; rw [hs.out] at h; exact h⟩
theorem box5 (w : World) (T0 : TypeId) (c0 : Array Value) (T1 : TypeId) (c1 : Array Value) (T2 : TypeId) (c2 : Array Value) (T3 : TypeId) (c3 : Array Value) (T4 : TypeId) (c4 : Array Value) : ∃ (W : World) (n0 : Nat), (((((w.alloc (.cells c0 T0)).alloc (.cells c1 T1)).alloc (.cells c2 T2)).alloc (.cells c3 T3)).alloc (.cells c4 T4)) = W ∧ w.heap.size = n0 ∧ Hid (W.heap.size = n0 + 1 + 1 + 1 + 1 + 1) ∧ Hid (Below n0 w W) ∧ Hid (Bk W (n0) T0 c0) ∧ Hid (Bk W (n0 + 1) T1 c1) ∧ Hid (Bk W (n0 + 1 + 1) T2 c2) ∧ Hid (Bk W (n0 + 1 + 1 + 1) T3 c3) ∧ Hid (Bk W (n0 + 1 + 1 + 1 + 1) T4 c4) := by
  obtain ⟨_, n0, rfl, hn, hs, hb, k0, k1, k2, k3⟩ := box4 w T0 c0 T1 c1 T2 c2 T3 c3
  exact ⟨_, n0, rfl, hn, (World.size_alloc _ _).trans (congrArg (· + 1) hs), hb.out.alloc (by have := hs.out; omega) _, k0.out.alloc _, k1.out.alloc _, k2.out.alloc _, k3.out.alloc _, by have h := Bk.new ((((w.alloc (.cells c0 T0)).alloc (.cells c1 T1)).alloc (.cells c2 T2)).alloc (.cells c3 T3)) T4 c4; rw [hs.out] at h; exact h⟩
theorem box6 (w : World) (T0 : TypeId) (c0 : Array Value) (T1 : TypeId) (c1 : Array Value) (T2 : TypeId) (c2 : Array Value) (T3 : TypeId) (c3 : Array Value) (T4 : TypeId) (c4 : Array Value) (T5 : TypeId) (c5 : Array Value) : ∃ (W : World) (n0 : Nat), ((((((w.alloc (.cells c0 T0)).alloc (.cells c1 T1)).alloc (.cells c2 T2)).alloc (.cells c3 T3)).alloc (.cells c4 T4)).alloc (.cells c5 T5)) = W ∧ w.heap.size = n0 ∧ Hid (W.heap.size = n0 + 1 + 1 + 1 + 1 + 1 + 1) ∧ Hid (Below n0 w W) ∧ Hid (Bk W (n0) T0 c0) ∧ Hid (Bk W (n0 + 1) T1 c1) ∧ Hid (Bk W (n0 + 1 + 1) T2 c2) ∧ Hid (Bk W (n0 + 1 + 1 + 1) T3 c3) ∧ Hid (Bk W (n0 + 1 + 1 + 1 + 1) T4 c4) ∧ Hid (Bk W (n0 + 1 + 1 + 1 + 1 + 1) T5 c5) := by
  obtain ⟨_, n0, rfl, hn, hs, hb, k0, k1, k2, k3, k4⟩ := box5 w T0 c0 T1 c1 T2 c2 T3 c3 T4 c4
  exact ⟨_, n0, rfl, hn, (World.size_alloc _ _).trans (congrArg (· + 1) hs), hb.out.alloc (by have := hs.out; omega) _, k0.out.alloc _, k1.out.alloc _, k2.out.alloc _, k3.out.alloc _, k4.out.alloc _, by have h := Bk.new (((((w.alloc (.cells c0 T0)).alloc (.cells c1 T1)).alloc (.cells c2 T2)).alloc (.cells c3 T3)).alloc (.cells c4 T4)) T5 c5; rw [hs.out] at h; exact h⟩
end Go.Proofs.YtebkgbmijocdjaaGreat
namespace Go.Proofs.YtebkgbmijocdjaaGreat.Tp
open Go Go.RowKit
abbrev iv (n:Int):Value:=.int .i64 n
structure Ct where
 src:Int
 dst:Int
 beg:Int
 fin:Int
 rate:Int
 rng:Int
 loss:Int
 deriving DecidableEq
structure Bkg where
 ct:Int
 beg:Int
 fin:Int
 tick:Int
 deriving DecidableEq
structure Hld where
 node:Int
 frm:Int
 til:Int
 size:Int
 tick:Int
 deriving DecidableEq
structure Hop where
 ct:Int
 beg:Int
 fin:Int
 arr:Int
 deriving DecidableEq
structure Lab where
 node:Int
 frm:Int
 til:Int
 time:Int
 deriving DecidableEq
structure Spn where
 frm:Int
 til:Int
 deriving DecidableEq
structure Lvl where
 at_:Int
 val:Int
 deriving DecidableEq
structure Pln where
 q:List Int
 c:List Ct
structure Rq where
 src:Int
 dst:Int
 size:Int
 ready:Int
 dead:Int
 prio:Int
 cust:Bool
 deriving DecidableEq
structure Tbl where
 p:Pln
 b:List Bkg
 h:List Hld
abbrev ctL (c:Ct):List Value := [iv c.src,iv c.dst,iv c.beg,iv c.fin,iv c.rate,iv c.rng,iv c.loss]
abbrev bkL (b:Bkg):List Value := [iv b.ct,iv b.beg,iv b.fin,iv b.tick]
abbrev hdL (h:Hld):List Value := [iv h.node,iv h.frm,iv h.til,iv h.size,iv h.tick]
abbrev hpL (h:Hop):List Value := [iv h.ct,iv h.beg,iv h.fin,iv h.arr]
abbrev lbL (x:Lab):List Value := [iv x.node,iv x.frm,iv x.til,iv x.time]
abbrev spL (x:Spn):List Value := [iv x.frm,iv x.til]
abbrev lvL (x:Lvl):List Value := [iv x.at_,iv x.val]
abbrev rqL (q:Rq):List Value := [iv q.src,iv q.dst,iv q.size,iv q.ready,iv q.dead,iv q.prio,.bool q.cust]
theorem Xgc {l:List Int}:∀v ∈ l.map iv,v.oneCell' = true:=fun v hv=>by
 obtain ⟨n,_,rfl⟩:=List.mem_map.1 hv
 rfl
def intE:Enc Int:=⟨1,fun n => [iv n],fun _=>rfl,fun n=>Xgc (l := [n])⟩
def ctE:Enc Ct:=⟨7,ctL,fun _=>rfl,fun c=>Xgc (l := [c.src,c.dst,c.beg,c.fin,c.rate,c.rng,c.loss])⟩
def bkE:Enc Bkg:=⟨4,bkL,fun _=>rfl,fun b=>Xgc (l := [b.ct,b.beg,b.fin,b.tick])⟩
def hdE:Enc Hld:=⟨5,hdL,fun _=>rfl,fun h=>Xgc (l := [h.node,h.frm,h.til,h.size,h.tick])⟩
def hpE:Enc Hop:=⟨4,hpL,fun _=>rfl,fun h=>Xgc (l := [h.ct,h.beg,h.fin,h.arr])⟩
def lbE:Enc Lab:=⟨4,lbL,fun _=>rfl,fun x=>Xgc (l := [x.node,x.frm,x.til,x.time])⟩
def spE:Enc Spn:=⟨2,spL,fun _=>rfl,fun x=>Xgc (l := [x.frm,x.til])⟩
def lvE:Enc Lvl:=⟨2,lvL,fun _=>rfl,fun x=>Xgc (l := [x.at_,x.val])⟩
def Xdy (c:Ct)(n:Int):Int:=(n+8+c.rate - 1) / c.rate
def Xjc (c:Ct):Nat→Int→Int
 | 0,_=>0
 | f+1,n=>if 0<n then Xdy c (min n 16)+Xjc c f (n - 16) else 0
def pass (c:Ct)(n:Int):Int:=Xjc c 4096 n
def dur (c:Ct)(n:Int):Int:=pass c n+c.loss * (2 * c.rng+1+Xdy c 16)
def CtOK (c:Ct):Prop:=(0≤c.src∧c.src≤15)∧(0≤c.dst∧c.dst≤15)∧(1≤c.rate∧c.rate≤1000)∧(1≤c.rng∧c.rng≤1048576)∧(0≤c.loss∧c.loss≤16)∧c.src ≠ c.dst∧0≤c.beg∧c.beg<c.fin∧c.fin≤1099511627776 - 2 * c.rng
def Ovl (a b:Ct):Prop:=a.src=b.src∧a.dst=b.dst∧max a.beg b.beg<min a.fin b.fin
def Xbe (p:Pln):Prop:=(1≤p.q.length∧p.q.length≤16∧p.c.length≤64)∧(∀x ∈ p.q,0≤x∧x≤1073741824)∧(∀c ∈ p.c,CtOK c∧c.src<p.q.length∧c.dst<p.q.length)∧p.c.Pairwise fun a b => ¬ Ovl b a
def Xi8 (p:Pln)(b:Bkg):Prop:=(0≤b.tick∧b.tick≤1152921504606846976)∧0≤b.ct ∧ ∃c,p.c[b.ct.toNat]? = some c∧c.beg≤b.beg∧b.beg<b.fin∧b.fin≤c.fin
def bkLt (a b:Bkg):Prop:=a.ct<b.ct∨a.ct=b.ct∧a.beg<b.beg∧a.fin≤b.beg
def Xk9 (p:Pln)(l:List Bkg):Prop:=l.length≤512∧(∀b ∈ l,Xi8 p b)∧l.Pairwise bkLt
def Xca (p:Pln)(h:Hld):Prop:=0≤h.node∧h.node<p.q.length∧0≤h.frm∧h.frm<h.til∧h.til≤1099511627776∧1≤h.size∧h.size≤65536∧0≤h.tick∧h.tick≤1152921504606846976
def Xon (h:Hld):List Int := [h.node,h.frm,h.til,h.tick,h.size]
def cmpL:List Int→List Int→Int
 | [],_=>0
 | _, [] => 0
 | a :: l,b :: m=>if a<b then -1 else if b<a then 1 else cmpL l m
def hdLe (a b:Hld):Prop:=cmpL (Xon a) (Xon b)≤0
def used (l:List Hld)(n t:Int):Int:=((l.filter fun h=>decide (h.node=n∧h.frm≤t∧t<h.til)).map (·.size)).sum
def Xm (p:Pln)(l:List Hld):Prop:=l.length≤512∧(∀h ∈ l,Xca p h)∧l.Pairwise hdLe ∧ ∀(n:Nat)(q:Int),p.q[n]? = some q → ∀t,used l n t≤q
def Xb5 (t:Tbl):Prop:=Xbe t.p∧Xk9 t.p t.b∧Xm t.p t.h
def RqOK (p:Pln)(q:Rq):Prop:=Xbe p∧(0≤q.src∧q.src<p.q.length)∧(0≤q.dst∧q.dst<p.q.length)∧q.src ≠ q.dst∧(1≤q.size∧q.size≤65536)∧0≤q.ready∧q.ready≤q.dead∧q.dead≤1099511627776∧0≤q.prio∧q.prio≤2
def Xai (T:TypeId)(w w':World):Prop:=∀(b:Nat)(cs:Array Value)(mk:Nat × Nat),w.heap[b]? = some (.cells cs T mk)→w'.heap[b]? = some (.cells cs T mk)
theorem Xai.refl (T:TypeId)(w:World):Xai T w w:=fun _ _ _ h=>h
theorem Xai.trans {T:TypeId}{a b c:World}(h:Xai T a b)(k:Xai T b c):Xai T a c:=fun x cs mk hx=>k x cs mk (h x cs mk hx)
theorem Xai.below {T:TypeId}{w w':World}(h:Below w.heap.size w w'):Xai T w w':=fun b cs mk hb=>(h.block b (Array.getElem?_eq_some_iff.1 hb).1).trans hb
theorem Xai.grown {T:TypeId}{w w':World}{row:Option Nat}(h:w.grownBy w' row)(hr:∀g,row=some g → ∀cs mk,w.heap[g]? ≠ some (.cells cs T mk)):Xai T w w':=fun b cs mk hb=>by
 refine (h.block b (Array.getElem?_eq_some_iff.1 hb).1 ?_).trans hb;intro e;exact hr b e.symm cs mk hb
theorem Xai.put {T U:TypeId}{w:World}{g i:Nat}{xs:Array Value}(h:Bk w g U xs)(hne:U ≠ T)(v:Value):Xai T w (w.setCell ⟨g,i,none⟩ v) :=
 Xai.grown (Xa0 w g i v) fun g' e cs mk hb=>by
  cases e;unfold Bk at h;rw[h] at hb
  injection hb with hb
  injection hb with _ e2 _
  exact hne e2
structure HpAt (w:World)(A:Option Addr)(c:Nat)(l:List Hop):Prop where
 s:SlAt hpE w A l
 c:l.length≤c
 t:∀a,A=some a → ∃cs mk,w.heap[a.block]? = some (.cells cs 41 mk)
theorem HpAt.keep {w w':World}{A:Option Addr}{c:Nat}{l:List Hop}(h:HpAt w A c l)(k:Xai 41 w w'):HpAt w' A c l:=by
 refine ⟨fun j r hj=>?_,h.c,fun a ha=>?_⟩
 ·obtain ⟨b,off,rfl,hr⟩:=h.s j r hj;obtain ⟨cs,mk,hb⟩:=h.t _ rfl;refine ⟨b,off,rfl,fun i v hv=>?_⟩;have h1:=hr i v hv;have h2:=k b cs mk hb;simp only at hb;unfold World.cell? at h1 ⊢;rw[hb] at h1;rw[h2];exact h1
 ·obtain ⟨cs,mk,hb⟩:=h.t a ha;exact ⟨cs,mk,k _ cs mk hb⟩
theorem HpAt.below {w w':World}{A:Option Addr}{c:Nat}{l:List Hop}(h:HpAt w A c l)(hb:Below w.heap.size w w'):HpAt w' A c l:=h.keep (Xai.below hb)
theorem HpAt.nil (w:World):HpAt w none 0 []:=⟨SlAt.nil _ _,Nat.le_refl _,fun _ h=>by cases h⟩
theorem HpAt.of_row {w:World}{base:Nat}{v:Value}{l:List Hop}(h:w.ownsRow base 41 4 v l.length (l.flatMap hpE.f)):∃A c,v = .slice A l.length c∧HpAt w A c l:=by
 obtain ⟨A,c,rfl,hs,hc⟩:=Xah (E:=hpE) h;refine ⟨A,c,rfl,hs,hc,fun a ha=>?_⟩;subst ha;rcases h.2 with ⟨e,_⟩ | ⟨g,cap,cur,e,_,h2,_⟩
 ·cases e
 ·injection e with e1 e2 e3
  cases e1;exact ⟨cur,(0,0),h2⟩
theorem Xee {c:Ct}(h1:1≤c.rate)(h2:c.rate≤1000){n:Int}(h3:1≤n)(h4:n≤16):1≤Xdy c n∧Xdy c n≤1023:=by
 unfold Xdy;constructor
 ·rw[Int.le_ediv_iff_mul_le (by omega)]; omega
 ·have h:(n+8+c.rate - 1) / c.rate<1024:=by rw[Int.ediv_lt_iff_lt_mul (by omega)]; omega
  omega
theorem Xjb {c:Ct}(h1:1≤c.rate)(h2:c.rate≤1000):∀(f:Nat)(n:Int),0≤Xjc c f n∧Xjc c f n≤1023 * f
 | 0,_=>by simp[Xjc]
 | f+1,n=>by
   have ih:=Xjb h1 h2 f (n - 16);unfold Xjc
   split
   ·have:=Xee h1 h2 (n:=min n 16) (by omega) (by omega)
    omega
   ·omega
theorem Xq {c:Ct}(h:CtOK c){n:Int}(h1:1≤n):1≤pass c n∧pass c n≤4190208:=by
 obtain ⟨_,_,⟨r1,r2⟩,_⟩:=h;have h:=Xjb r1 r2 4096 n;have h2:=Xee r1 r2 (n:=min n 16) (by omega) (by omega)
 have h3:=(Xjb r1 r2 4095 (n - 16)).1;refine ⟨?_,by unfold pass; omega⟩
 unfold pass;rw[Xjc,if_pos (by omega)]
 omega
theorem lossy {c:Ct}(h:CtOK c):0≤c.loss * (2 * c.rng+1+Xdy c 16)∧c.loss * (2 * c.rng+1+Xdy c 16)≤33570816:=by
 obtain ⟨_,_,⟨r1,r2⟩,⟨g1,g2⟩,⟨l1,l2⟩,_⟩:=h;have ht:=Xee r1 r2 (n:=16) (by omega) (by omega)
 refine ⟨Int.mul_nonneg l1 (by omega),?_⟩
 have:c.loss * (2 * c.rng+1+Xdy c 16)≤16 * (2 * c.rng+1+Xdy c 16):=Int.mul_le_mul_of_nonneg_right l2 (by omega)
 omega
theorem Xdw {c:Ct}(h:CtOK c){n:Int}(h1:1≤n):1≤dur c n∧dur c n≤37761024:=by
 have h2:=Xq h h1;have h3:=lossy h;unfold dur;omega
abbrev rqA (q : Rq) : Array Value := #[.int .i64 q.src, .int .i64 q.dst, .int .i64 q.size, .int .i64 q.ready, .int .i64 q.dead, .int .i64 q.prio, .bool q.cust]
abbrev plA (Aq : Option Addr) (cq : Nat) (Ac : Option Addr) (cc : Nat) (p : Pln) : Array Value := #[.slice Aq p.q.length cq, .slice Ac p.c.length cc]
abbrev lgA (Aq : Option Addr) (cq : Nat) (Ac : Option Addr) (cc : Nat) (p : Pln) (A : Option Addr) (n c : Nat) : Array Value := #[.slice Aq p.q.length cq, .slice Ac p.c.length cc, .slice none 0 0, .slice A n c]
abbrev tbA (Aq : Option Addr) (cq : Nat) (Ac : Option Addr) (cc : Nat) (B : Option Addr) (cb : Nat) (H : Option Addr) (ch : Nat) (t : Tbl) : Array Value := #[.slice Aq t.p.q.length cq, .slice Ac t.p.c.length cc, .slice B t.b.length cb, .slice H t.h.length ch]
abbrev tbB (Aq : Option Addr) (cq : Nat) (Ac : Option Addr) (cc : Nat) (p : Pln) (B : Option Addr) (b : List Bkg) (cb : Nat) (H : Option Addr) (h : List Hld) (ch : Nat) : Array Value := #[.slice Aq p.q.length cq, .slice Ac p.c.length cc, .slice B b.length cb, .slice H h.length ch]
theorem PU : (∀ (a : Act) (i : Nat) (v : Value), a.put (some i) v = { a with tmps := a.tmps.setIfInBounds i v }) ∧ (∀ (a : Act) (v : Value), a.put none v = a) ∧ (∀ (l : List Value) (i : Nat) (v : Value), l.toArray.setIfInBounds i v = (l.set i v).toArray) ∧ (∀ (a b : Value) (l : List Value), (a :: l).set 0 b = b :: l) ∧ ∀ (a b : Value) (l : List Value) (i : Nat), (a :: l).set (i + 1) b = a :: l.set i b :=
  ⟨fun _ _ _ => rfl, fun _ _ => rfl, fun _ _ _ => List.setIfInBounds_toArray .., fun _ _ _ => rfl, fun _ _ _ _ => rfl⟩
theorem rgBk {w : World} {b o i : Nat} {x : Bkg} (h : w.rangeAt b (o + i * bkE.k) (bkE.f x)) : w.cell? ⟨b, o + i * 4, none⟩ = some (.int .i64 x.ct) ∧ w.cell? ⟨b, o + i * 4 + 1, none⟩ = some (.int .i64 x.beg) ∧ w.cell? ⟨b, o + i * 4 + 2, none⟩ = some (.int .i64 x.fin) ∧ w.cell? ⟨b, o + i * 4 + 3, none⟩ = some (.int .i64 x.tick) := ⟨h 0 _ rfl, h 1 _ rfl, h 2 _ rfl, h 3 _ rfl⟩
theorem rgCt {w : World} {b o i : Nat} {x : Ct} (h : w.rangeAt b (o + i * ctE.k) (ctE.f x)) : w.cell? ⟨b, o + i * 7, none⟩ = some (.int .i64 x.src) ∧ w.cell? ⟨b, o + i * 7 + 1, none⟩ = some (.int .i64 x.dst) ∧ w.cell? ⟨b, o + i * 7 + 2, none⟩ = some (.int .i64 x.beg) ∧ w.cell? ⟨b, o + i * 7 + 3, none⟩ = some (.int .i64 x.fin) ∧ w.cell? ⟨b, o + i * 7 + 4, none⟩ = some (.int .i64 x.rate) ∧ w.cell? ⟨b, o + i * 7 + 5, none⟩ = some (.int .i64 x.rng) ∧ w.cell? ⟨b, o + i * 7 + 6, none⟩ = some (.int .i64 x.loss) := ⟨h 0 _ rfl, h 1 _ rfl, h 2 _ rfl, h 3 _ rfl, h 4 _ rfl, h 5 _ rfl, h 6 _ rfl⟩
theorem rgHd {w : World} {b o i : Nat} {x : Hld} (h : w.rangeAt b (o + i * hdE.k) (hdE.f x)) : w.cell? ⟨b, o + i * 5, none⟩ = some (.int .i64 x.node) ∧ w.cell? ⟨b, o + i * 5 + 1, none⟩ = some (.int .i64 x.frm) ∧ w.cell? ⟨b, o + i * 5 + 2, none⟩ = some (.int .i64 x.til) ∧ w.cell? ⟨b, o + i * 5 + 3, none⟩ = some (.int .i64 x.size) ∧ w.cell? ⟨b, o + i * 5 + 4, none⟩ = some (.int .i64 x.tick) := ⟨h 0 _ rfl, h 1 _ rfl, h 2 _ rfl, h 3 _ rfl, h 4 _ rfl⟩
theorem rgHp {w : World} {b o i : Nat} {x : Hop} (h : w.rangeAt b (o + i * hpE.k) (hpE.f x)) : w.cell? ⟨b, o + i * 4, none⟩ = some (.int .i64 x.ct) ∧ w.cell? ⟨b, o + i * 4 + 1, none⟩ = some (.int .i64 x.beg) ∧ w.cell? ⟨b, o + i * 4 + 2, none⟩ = some (.int .i64 x.fin) ∧ w.cell? ⟨b, o + i * 4 + 3, none⟩ = some (.int .i64 x.arr) := ⟨h 0 _ rfl, h 1 _ rfl, h 2 _ rfl, h 3 _ rfl⟩
theorem rgLb {w : World} {b o i : Nat} {x : Lab} (h : w.rangeAt b (o + i * lbE.k) (lbE.f x)) : w.cell? ⟨b, o + i * 4, none⟩ = some (.int .i64 x.node) ∧ w.cell? ⟨b, o + i * 4 + 1, none⟩ = some (.int .i64 x.frm) ∧ w.cell? ⟨b, o + i * 4 + 2, none⟩ = some (.int .i64 x.til) ∧ w.cell? ⟨b, o + i * 4 + 3, none⟩ = some (.int .i64 x.time) := ⟨h 0 _ rfl, h 1 _ rfl, h 2 _ rfl, h 3 _ rfl⟩
theorem rgLv {w : World} {b o i : Nat} {x : Lvl} (h : w.rangeAt b (o + i * lvE.k) (lvE.f x)) : w.cell? ⟨b, o + i * 2, none⟩ = some (.int .i64 x.at_) ∧ w.cell? ⟨b, o + i * 2 + 1, none⟩ = some (.int .i64 x.val) := ⟨h 0 _ rfl, h 1 _ rfl⟩
theorem rgSp {w : World} {b o i : Nat} {x : Spn} (h : w.rangeAt b (o + i * spE.k) (spE.f x)) : w.cell? ⟨b, o + i * 2, none⟩ = some (.int .i64 x.frm) ∧ w.cell? ⟨b, o + i * 2 + 1, none⟩ = some (.int .i64 x.til) := ⟨h 0 _ rfl, h 1 _ rfl⟩
end Go.Proofs.YtebkgbmijocdjaaGreat.Tp
