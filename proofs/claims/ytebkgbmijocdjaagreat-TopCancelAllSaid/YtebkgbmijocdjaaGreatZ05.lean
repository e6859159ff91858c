/- A part of the proof for the ledger. No condition beyond those that each theorem states. -/
import Derived.Test.YtebkgbmijocdjaaGreatZ04
set_option maxHeartbeats 32000000
set_option maxRecDepth 100000
set_option linter.unusedVariables false
set_option linter.unusedSimpArgs false
namespace Go.Proofs.YtebkgbmijocdjaaGreat.Tp
open Go Go.RowKit
abbrev lbA (x:Lab):Array Value := #[.int .i64 x.node,.int .i64 x.frm,.int .i64 x.til,.int .i64 x.time]
def lbC (a b:Lab):Int:=orL [cmpI a.time b.time,cmpI a.node b.node,cmpI a.frm b.frm]
theorem Xjp (a b:Lab)(w:World):Calls Tryz.prog 66 #[.agg #[.int .i64 a.node,.int .i64 a.frm,.int .i64 a.til,.int .i64 a.time],.agg #[.int .i64 b.node,.int .i64 b.frm,.int .i64 b.til,.int .i64 b.time]] w fun e w' => e = .returned (.int .i64 (lbC a b))∧Below w.heap.size w w':=by
 have HB0:Hid (Below w.heap.size w ((w.alloc (.cells (lbA a) 81)).alloc (.cells (lbA b) 81))):=((Below.refl _ _).alloc (Nat.le_refl _) _).alloc (by simp) _
 have HK:=Lib.hid ((Bk.new w 81 (lbA a)).alloc (.cells (lbA b) 81));have HL:Hid (Bk ((w.alloc (.cells (lbA a) 81)).alloc (.cells (lbA b) 81)) (w.heap.size+1) 81 (lbA b)):=by
  have h:=Bk.new (w.alloc (.cells (lbA a) 81)) 81 (lbA b)
  rwa [World.size_alloc] at h
 go_enter Tryz.func66,Tryz.ntmps66;go_wp2_with fail;generalize (w.alloc (.cells (lbA a) 81)).alloc (.cells (lbA b) 81)=W at HB0 HK HL ⊢;generalize w.heap.size=g at HK HL ⊢;have HD:Hid (∀w',Below W.heap.size W w' → (w'.cell? ⟨g,0,none⟩=some (.int .i64 a.node)∧w'.cell? ⟨g,1,none⟩=some (.int .i64 a.frm)∧w'.cell? ⟨g,2,none⟩=some (.int .i64 a.til)∧w'.cell? ⟨g,3,none⟩=some (.int .i64 a.time))∧w'.cell? ⟨g+1,0,none⟩=some (.int .i64 b.node)∧w'.cell? ⟨g+1,1,none⟩=some (.int .i64 b.frm)∧w'.cell? ⟨g+1,2,none⟩=some (.int .i64 b.til)∧w'.cell? ⟨g+1,3,none⟩=some (.int .i64 b.time)):=fun w' hb=>by
  have h1:=HK.out.below hb HK.out.lt;have h2:=HL.out.below hb HL.out.lt;exact ⟨⟨h1.cell 0,h1.cell 1,h1.cell 2,h1.cell 3⟩,h2.cell 0,h2.cell 1,h2.cell 2,h2.cell 3⟩
 go_region_held3 (fun w' => ((w'.cell? ⟨g,0,none⟩=some (.int .i64 a.node)∧w'.cell? ⟨g,1,none⟩=some (.int .i64 a.frm)∧w'.cell? ⟨g,2,none⟩=some (.int .i64 a.til)∧w'.cell? ⟨g,3,none⟩=some (.int .i64 a.time))∧w'.cell? ⟨g+1,0,none⟩=some (.int .i64 b.node)∧w'.cell? ⟨g+1,1,none⟩=some (.int .i64 b.frm)∧w'.cell? ⟨g+1,2,none⟩=some (.int .i64 b.til)∧w'.cell? ⟨g+1,3,none⟩=some (.int .i64 b.time))∧Hid (Below W.heap.size W w')) (((try go_split_ands); first | exact Xa7 HD (Below.refl _ _).drew | exact Xaw HD (by assumption) hb4 | exact Xa7 HD (Xto (by assumption))))
  ((first
    | (go_at_call 84
       refine (Xbq _ _ _).mono ?_;rintro e w4 ⟨rfl,hw4⟩;have hb4:=Xc8 hw4;clear hw4)
    | (go_at_call 83
       refine (Xh4 _ _ [cmpI a.time b.time,cmpI a.node b.node,cmpI a.frm b.frm] _ rfl (by simp) ?_).mono ?_
       ·exact Xdn _ [cmpI a.time b.time,cmpI a.node b.node,cmpI a.frm b.frm] _
       rintro e w4 ⟨rfl,hw4⟩;have hb4:=Xc8 hw4;clear hw4)))
 have HBF:Hid (Below W.heap.size W w4):=by (try go_split_ands); assumption
 go_wp2;go_ret;exact ⟨rfl,Xa HB0.out HBF.out⟩
structure Grf where
 cs:List Ct
 gaps:List (List Spn)
 rooms:List (List Spn)
 durs:List Int
 src:Int
 dst:Int
 ready:Int
 dead:Int
 cust:Bool
def hopF (i:Nat)(c:Ct)(d f:Int):List Spn→Option Hop
 | [] => none
 | s :: l=>if max s.frm f+d≤s.til then some ⟨i,max s.frm f,max s.frm f+d,max s.frm f+d+c.rng⟩ else hopF i c d f l
def Xbb (g:Grf)(n:Int):List Spn:=if n=g.dst then [⟨0,1099511627776⟩] else g.rooms.getD n.toNat []
def Xav (cust:Bool)(c:Ct)(h:Hop):Int:=if cust then h.fin+2 * c.rng else h.fin
def mvOk (g:Grf)(x:Lab)(c:Ct)(r:Spn)(h:Hop):Bool:=decide (Xav g.cust c h≤x.til∧h.arr≤g.dead∧(c.dst=g.dst∨h.arr<r.til))
def mvOf (g:Grf)(x:Lab)(i:Nat)(c:Ct)(r:Spn):List (Lab × Hop) :=
 match hopF i c (g.durs.getD i 0) (max x.time r.frm) (g.gaps.getD i []) with
 | none => []
 | some h=>if mvOk g x c r h then [(⟨c.dst,r.frm,r.til,h.arr⟩,h)] else []
def mvCt (g:Grf)(x:Lab)(i:Nat)(c:Ct):List (Lab × Hop):=if c.src=x.node then (Xbb g c.dst).flatMap (mvOf g x i c) else []
def Xal (g:Grf)(x:Lab):Nat→List Ct→List (Lab × Hop)
 | _, [] => []
 | i,c :: l=>mvCt g x i c ++ Xal g x (i+1) l
def Xag (g:Grf)(x:Lab):List (Lab × Hop):=Xal g x 0 g.cs
def Mv (g:Grf)(x:Lab)(y:Lab)(h:Hop):Prop:=∃(i:Nat)(c:Ct)(r:Spn),g.cs[i]? = some c∧c.src=x.node∧r ∈ Xbb g c.dst∧hopF i c (g.durs.getD i 0) (max x.time r.frm) (g.gaps.getD i [])=some h∧mvOk g x c r h=true∧y=⟨c.dst,r.frm,r.til,h.arr⟩
theorem Xnf {g:Grf}{x:Lab}{i:Nat}{c:Ct}{r:Spn}{y:Lab}{h:Hop}:(y,h) ∈ mvOf g x i c r↔hopF i c (g.durs.getD i 0) (max x.time r.frm) (g.gaps.getD i [])=some h∧mvOk g x c r h=true∧y=⟨c.dst,r.frm,r.til,h.arr⟩:=by
 unfold mvOf
 split
 ·rename_i e; rw[e]; simp
 ·rename_i k e
  rw[e]
  by_cases hk:mvOk g x c r k=true
  ·rw[if_pos hk];constructor
   ·intro hm;simp only[List.mem_singleton,Prod.mk.injEq] at hm;obtain ⟨rfl,rfl⟩:=hm;exact ⟨rfl,hk,rfl⟩
   ·rintro ⟨e2,-,rfl⟩;cases e2;simp
  ·rw[if_neg hk];constructor
   ·intro hm; simp at hm
   ·rintro ⟨e2,h2, -⟩;cases e2;exact absurd h2 hk
theorem Xfj {g:Grf}{x:Lab}{y:Lab}{h:Hop}:∀ {l:List Ct}{k:Nat},(y,h) ∈ Xal g x k l ↔ ∃(i:Nat)(c:Ct),l[i]? = some c∧(y,h) ∈ mvCt g x (k+i) c
 | [],k=>by simp[Xal]
 | c :: l,k=>by
   rw[Xal,List.mem_append,Xfj];constructor
   ·rintro (h1 | ⟨i,c',h1,h2⟩)
    ·exact ⟨0,c,rfl,h1⟩
    ·exact ⟨i+1,c',by simpa using h1,by rwa [show k+(i+1)=k+1+i by omega]⟩
   ·rintro ⟨i,c',h1,h2⟩;cases i with
    | zero=>simp only[List.getElem?_cons_zero,Option.some.injEq] at h1; subst h1; exact .inl h2
    | succ i=>exact .inr ⟨i,c',by simpa using h1,by rwa [show k+1+i=k+(i+1) by omega]⟩
theorem Xaz {g:Grf}{x:Lab}{y:Lab}{h:Hop}:(y,h) ∈ Xag g x↔Mv g x y h:=by
 unfold Xag;rw[Xfj];unfold Mv mvCt;constructor
 ·rintro ⟨i,c,h1,h2⟩;rw[Nat.zero_add] at h2
  split at h2
  ·rename_i hs
   obtain ⟨r,hr,hm⟩:=List.mem_flatMap.1 h2;exact ⟨i,c,r,h1,hs,hr,Xnf.1 hm⟩
  ·simp at h2
 ·rintro ⟨i,c,r,h1,h2,h3,h4⟩;refine ⟨i,c,h1,?_⟩;rw[Nat.zero_add,if_pos h2];exact List.mem_flatMap.2 ⟨r,h3,Xnf.2 h4⟩
def same (a b:Lab):Bool:=a.node == b.node && a.frm == b.frm
def Xar (m:Lab):List Lab→Lab
 | [] => m
 | y :: l=>Xar (if lbC y m<0 then y else m) l
def Xew (g:Grf)(done:List Lab)(x:Lab):List Lab:=((Xag g x).map (·.1)).filter fun y => !(y.node == g.dst) && !(done.any fun z=>same y z)
def Xi2 (g:Grf):List Lab × List Lab→List Lab × List Lab
 | (done, [])=>(done, [])
 | (done,o :: os)=>(done ++ [Xar o os],((o :: os).filter fun y => !same (Xar o os) y) ++ Xew g (done ++ [Xar o os]) (Xar o os))
def Xf8 (g:Grf):List Lab:=((g.rooms.getD g.src.toNat []).filter fun r=>decide (r.frm≤g.ready) && decide (g.ready<r.til)).map fun r=>⟨g.src,r.frm,r.til,g.ready⟩
def Xb0 (g:Grf):Nat→List Lab × List Lab
 | 0=>([],Xf8 g)
 | k+1=>Xi2 g (Xb0 g k)
theorem Xrt {a b:Lab}(h:lbC a b<0):a.time≤b.time:=by
 unfold lbC orL cmpI at h
 by_cases h1:a.time≤b.time
 ·exact h1
 ·rw[if_neg (by rw[if_neg (by omega),if_pos (by omega)]; omega),if_neg (by omega),if_pos (by omega)] at h
  omega
theorem Xqc {a b:Lab}(h:¬ lbC a b<0):b.time≤a.time:=by
 unfold lbC orL cmpI at h
 by_cases h1:b.time≤a.time
 ·exact h1
 ·rw[if_neg (by rw[if_pos (by omega)]; omega),if_pos (by omega)] at h
  omega
theorem Xg:∀(m:Lab)(l:List Lab),Xar m l ∈ m :: l
 | m, [] => by simp[Xar]
 | m,y :: l=>by
   have h:=Xg (if lbC y m<0 then y else m) l
   rw[Xar]
   split at h
   ·rename_i hc
    rw[if_pos hc];rcases List.mem_cons.1 h with h | h
    ·rw[h]; simp
    ·simp[h]
   ·rename_i hc
    rw[if_neg hc];rcases List.mem_cons.1 h with h | h
    ·rw[h]; simp
    ·simp[h]
theorem Xh9:∀(m:Lab)(l:List Lab),∀y ∈ m :: l,(Xar m l).time≤y.time
 | m, [],y,hy=>by simp at hy; simp[Xar,hy]
 | m,z :: l,y,hy=>by
   rw[Xar]
   by_cases hc:lbC z m<0
   ·rw[if_pos hc];have h1:=Xh9 z l;have h2:=Xrt hc;rcases List.mem_cons.1 hy with h | h
    ·have:=h1 z (by simp); rw[h]; omega
    ·exact h1 y h
   ·rw[if_neg hc];have h1:=Xh9 m l;have h2:=Xqc hc;rcases List.mem_cons.1 hy with h | h
    ·rw[h]; exact h1 m (by simp)
    ·rcases List.mem_cons.1 h with h | h
     ·have:=h1 m (by simp); rw[h]; omega
     ·exact h1 y (by simp[h])
structure GOK (g:Grf):Prop where
 node:∀c ∈ g.cs,0≤c.dst
 rng:∀c ∈ g.cs,1≤c.rng
 dur:∀(i:Nat) (c:Ct),g.cs[i]? = some c→0≤g.durs.getD i 0
 src:0≤g.src∧g.src ≠ g.dst
 one:∀l ∈ g.rooms,∀a ∈ l,∀b ∈ l,a.frm=b.frm→a=b
def Fine (g:Grf)(y:Lab):Prop:=y.node ≠ g.dst∧0≤y.node∧(⟨y.frm,y.til⟩:Spn) ∈ g.rooms.getD y.node.toNat [] ∧ y.frm≤y.time∧y.time<y.til
theorem getD_mem {α:Type}{l:List (List α)}{n:Nat}{x:α}(h:x ∈ l.getD n []):l.getD n [] ∈ l:=by
 rw[List.getD_eq_getElem?_getD] at h ⊢;cases he:l[n]? with
 | none=>rw[he] at h; simp at h
 | some y=>exact List.mem_of_getElem? he
theorem same_iff {a b:Lab}:same a b=true↔a.node=b.node∧a.frm=b.frm:=by simp[same]
theorem Fine.til {g:Grf}(hg:GOK g){a b:Lab}(ha:Fine g a)(hb:Fine g b)(h:same a b=true):a.til=b.til:=by
 obtain ⟨h1,h2⟩:=same_iff.1 h;have h3:=ha.2.2.1;have h4:=hb.2.2.1;rw[←h1] at h4;have:=hg.one _ (getD_mem h3) _ h3 _ h4 h2;exact congrArg Spn.til this
theorem Xe5 {i:Nat}{c:Ct}{d f:Int}{h:Hop}:∀ {l:List Spn},hopF i c d f l=some h → ∃s ∈ l,s.frm≤h.beg∧f≤h.beg∧h.beg+d≤s.til∧h=⟨i,h.beg,h.beg+d,h.beg+d+c.rng⟩
 | [],e=>by simp[hopF] at e
 | s :: l,e=>by
   unfold hopF at e
   split at e
   ·cases e;exact ⟨s,by simp,by show s.frm≤max s.frm f; omega,by show f≤max s.frm f; omega,by assumption,rfl⟩
   ·obtain ⟨s',hs,h2⟩:=Xe5 e;exact ⟨s',by simp[hs],h2⟩
theorem Mv.time {g:Grf}(hg:GOK g){x y:Lab}{h:Hop}(hm:Mv g x y h):x.time≤h.beg∧h.beg≤h.fin∧h.fin<h.arr∧y.time=h.arr∧x.time<y.time∧y.frm≤h.beg:=by
 obtain ⟨i,c,r,h1,h2,h3,h4,h5,rfl⟩:=hm;obtain ⟨s,hs,e1,e2,e3,e4⟩:=Xe5 h4;have hd:=hg.dur i c h1;have hr:=hg.rng c (List.mem_of_getElem? h1);have e5:h.fin=h.beg+g.durs.getD i 0:=by rw[e4]
 have e6:h.arr=h.beg+g.durs.getD i 0+c.rng:=by rw[e4]
 refine ⟨by omega,by omega,by omega,rfl,?_,?_⟩
 ·show x.time<h.arr; omega
 ·show r.frm≤h.beg; omega
theorem Mv.fine {g:Grf}(hg:GOK g){x y:Lab}{h:Hop}(hm:Mv g x y h)(hy:y.node ≠ g.dst):Fine g y:=by
 have ht:=hm.time hg;obtain ⟨i,c,r,h1,h2,h3,h4,h5,rfl⟩:=hm;have hn:c.dst ≠ g.dst:=hy;unfold Xbb at h3;rw[if_neg hn] at h3;have h6:h.arr<r.til:=by
  unfold mvOk at h5;have:=of_decide_eq_true h5;omega
 refine ⟨hn,hg.node c (List.mem_of_getElem? h1),h3,?_,h6⟩;show r.frm≤h.arr;have:r.frm≤h.beg:=ht.2.2.2.2.2;omega
def Start (g:Grf)(y:Lab):Prop:=y ∈ Xf8 g
theorem Start.iff {g:Grf}{y:Lab}:Start g y ↔ ∃r ∈ g.rooms.getD g.src.toNat [],r.frm≤g.ready∧g.ready<r.til∧y=⟨g.src,r.frm,r.til,g.ready⟩:=by
 unfold Start Xf8;simp only[List.mem_map,List.mem_filter,Bool.and_eq_true,decide_eq_true_eq];constructor
 ·rintro ⟨r,⟨h1,h2,h3⟩,rfl⟩; exact ⟨r,h1,h2,h3,rfl⟩
 ·rintro ⟨r,h1,h2,h3,rfl⟩; exact ⟨r,⟨h1,h2,h3⟩,rfl⟩
theorem Start.fine {g:Grf}(hg:GOK g){y:Lab}(h:Start g y):Fine g y:=by
 obtain ⟨r,h1,h2,h3,rfl⟩:=Start.iff.1 h;exact ⟨hg.src.2,hg.src.1,h1,h2,h3⟩
structure Inv (g:Grf)(s:List Lab × List Lab):Prop where
 le:∀d ∈ s.1,∀o ∈ s.2,d.time≤o.time
 fine:∀y ∈ s.1 ++ s.2,Fine g y
 sound:∀y ∈ s.1 ++ s.2,Start g y ∨ ∃x ∈ s.1,∃h,(y,h) ∈ Xag g x
 closed:∀x ∈ s.1,∀y h,(y,h) ∈ Xag g x→y.node ≠ g.dst → ∃z ∈ s.1 ++ s.2,same z y=true∧z.time≤y.time
 start:∀y,Start g y → ∃z ∈ s.1 ++ s.2,same z y=true∧z.time≤y.time
 apart:s.1.Pairwise fun a b=>same a b=false
 off:∀d ∈ s.1,∀o ∈ s.2,same d o=false
theorem Xdd (a:Lab):same a a=true:=by simp[same]
theorem Xgy {a b:Lab}(h:same a b=true):same b a=true:=by
 rw[same_iff] at h ⊢; exact ⟨h.1.symm,h.2.symm⟩
theorem Xif {a b c:Lab}(h:same a b=true)(k:same b c=true):same a c=true:=by
 rw[same_iff] at h k ⊢; exact ⟨h.1.trans k.1,h.2.trans k.2⟩
theorem Xkv (a b:Lab):same a b=same b a:=by
 rw[Bool.eq_iff_iff]; exact ⟨Xgy,Xgy⟩
theorem inv0 {g:Grf}(hg:GOK g):Inv g (Xb0 g 0) where
 le:=by simp[Xb0]
 fine:=fun y hy=>by
  simp only[Xb0,List.nil_append] at hy;exact Start.fine hg hy
 sound:=fun y hy=>by
  simp only[Xb0,List.nil_append] at hy;exact .inl hy
 closed:=by simp[Xb0]
 start:=fun y hy=>⟨y,List.mem_append.2 (.inr hy),Xdd y,Int.le_refl _⟩
 apart:=by simp[Xb0]
 off:=by simp[Xb0]
theorem Xcu {g:Grf}{done:List Lab}{x y:Lab}:y ∈ Xew g done x↔(∃h,(y,h) ∈ Xag g x)∧y.node ≠ g.dst ∧ ∀z ∈ done,same y z=false:=by
 unfold Xew;rw[List.mem_filter,List.mem_map];simp only[Bool.and_eq_true,Bool.not_eq_true',beq_eq_false_iff_ne,ne_eq,List.any_eq_false,Bool.not_eq_true];constructor
 ·rintro ⟨⟨⟨y',h⟩,h1,rfl⟩,h2,h3⟩; exact ⟨⟨h,h1⟩,h2,h3⟩
 ·rintro ⟨⟨h,h1⟩,h2,h3⟩; exact ⟨⟨(y,h),h1,rfl⟩,h2,h3⟩
theorem Xrw {g:Grf}(hg:GOK g){s:List Lab × List Lab}(hs:Inv g s):Inv g (Xi2 g s):=by
 obtain ⟨done,open_⟩:=s;cases open_ with
 | nil=>exact hs
 | cons o os =>
   have hxm:=Xg o os;have hxl:=Xh9 o os;rw[Xi2];generalize Xar o os=x at hxm hxl;have le:=hs.le;have fine:=hs.fine;have sound:=hs.sound;have closed:=hs.closed;have start:=hs.start;have apart:=hs.apart;have off:=hs.off;simp only at le fine sound closed start apart off;have hmove:∀ {z:Lab},z ∈ done ++ (o :: os) → ∃z' ∈ (done ++ [x]) ++ (((o :: os).filter fun y => !same x y) ++ Xew g (done ++ [x]) x),same z' z=true∧z'.time≤z.time:=by
    intro z hz;rcases List.mem_append.1 hz with h | h
    ·exact ⟨z,by simp[h],Xdd z,Int.le_refl _⟩
    ·by_cases e:same x z=true
     ·exact ⟨x,by simp,e,hxl z h⟩
     ·refine ⟨z,?_,Xdd z,Int.le_refl _⟩;have:z ∈ (o :: os).filter fun y => !same x y:=List.mem_filter.2 ⟨h,by simpa using e⟩
      simp only[List.mem_append];exact .inr (.inl this)
   refine ⟨?_,?_,?_,?_,?_,?_,?_⟩
   ·intro d hd y hy;simp only at hd hy;have hdx:d.time≤x.time:=by
     rcases List.mem_append.1 hd with h | h
     ·exact le d h x hxm
     ·rw[List.mem_singleton.1 h]; exact Int.le_refl _
    rcases List.mem_append.1 hy with h | h
    ·have:=hxl y (List.mem_filter.1 h).1; omega
    ·obtain ⟨⟨h',hm⟩, -⟩:=Xcu.1 h;have:=((Xaz.1 hm).time hg).2.2.2.2.1;omega
   ·intro y hy;simp only[List.mem_append] at hy;rcases hy with (h | h) | h | h
    ·exact fine y (by simp[h])
    ·rw[List.mem_singleton.1 h]; exact fine x (List.mem_append.2 (.inr hxm))
    ·exact fine y (List.mem_append.2 (.inr (List.mem_filter.1 h).1))
    ·obtain ⟨⟨h',hm⟩,hn, -⟩:=Xcu.1 h;exact (Xaz.1 hm).fine hg hn
   ·intro y hy;have back:∀y,(Start g y ∨ ∃x ∈ done,∃h,(y,h) ∈ Xag g x)→(Start g y ∨ ∃z ∈ done ++ [x],∃h,(y,h) ∈ Xag g z):=by
     rintro y (h | ⟨z,hz,h',hm⟩)
     ·exact .inl h
     ·exact .inr ⟨z,by simp[hz],h',hm⟩
    simp only[List.mem_append] at hy;rcases hy with (h | h) | h | h
    ·exact back y (sound y (by simp[h]))
    ·rw[List.mem_singleton.1 h]; exact back x (sound x (List.mem_append.2 (.inr hxm)))
    ·exact back y (sound y (List.mem_append.2 (.inr (List.mem_filter.1 h).1)))
    ·obtain ⟨⟨h',hm⟩, -⟩:=Xcu.1 h;exact .inr ⟨x,by simp,h',hm⟩
   ·intro z hz y h hm hn;simp only at hz;rcases List.mem_append.1 hz with h1 | h1
    ·obtain ⟨z1,hz1,e1,e2⟩:=closed z h1 y h hm hn;obtain ⟨z2,hz2,e3,e4⟩:=hmove hz1;exact ⟨z2,hz2,Xif e3 e1,by omega⟩
    ·rw[List.mem_singleton.1 h1] at hm
     by_cases hd:∀z ∈ done ++ [x],same y z=false
     ·refine ⟨y,?_,Xdd y,Int.le_refl _⟩;simp only[List.mem_append];exact .inr (.inr (Xcu.2 ⟨⟨h,hm⟩,hn,hd⟩))
     ·have:∃z ∈ done ++ [x],same y z=true:=by
       apply Classical.byContradiction;intro hc;apply hd;intro z hz;cases e:same y z with
       | false=>rfl
       | true=>exact absurd ⟨z,hz,e⟩ hc
      obtain ⟨z2,hz2,e2⟩:=this;refine ⟨z2,List.mem_append.2 (.inl hz2),Xgy e2,?_⟩;have h5:=((Xaz.1 hm).time hg).2.2.2.2.1;rcases List.mem_append.1 hz2 with h6 | h6
      ·have:=le z2 h6 x hxm; omega
      ·rw[List.mem_singleton.1 h6]; omega
   ·intro y hy;obtain ⟨z1,hz1,e1,e2⟩:=start y hy;obtain ⟨z2,hz2,e3,e4⟩:=hmove hz1;exact ⟨z2,hz2,Xif e3 e1,by omega⟩
   ·refine List.pairwise_append.2 ⟨apart,by simp,fun a ha b hb=>?_⟩
    rw[List.mem_singleton.1 hb];exact off a ha x hxm
   ·intro d hd y hy;simp only at hd hy;rcases List.mem_append.1 hy with h | h
    ·obtain ⟨h1,h2⟩:=List.mem_filter.1 h;rcases List.mem_append.1 hd with h3 | h3
     ·exact off d h3 y h1
     ·rw[List.mem_singleton.1 h3]; simpa using h2
    ·have:=(Xcu.1 h).2.2 d hd
     rwa [Xkv] at this
theorem Xej {g:Grf}(hg:GOK g):∀k,Inv g (Xb0 g k)
 | 0=>inv0 hg
 | k+1=>Xrw hg (Xej hg k)
def keyN (g:Grf):Nat:=(g.rooms.map List.length).sum
theorem Xgt {g:Grf}:∀ {k:Nat},(∀j<k,(Xb0 g j).2 ≠ [])→(Xb0 g k).1.length=k
 | 0,_=>rfl
 | k+1,h=>by
   have ih:=Xgt (g:=g) (k:=k) (fun j hj=>h j (by omega))
   have hk:=h k (by omega)
   rw[Xb0];generalize Xb0 g k=s at ih hk;obtain ⟨done,open_⟩:=s;cases open_ with
   | nil=>exact absurd rfl hk
   | cons o os=>rw[Xi2]; simpa using ih
theorem Xgm {α:Type} [DecidableEq α]:∀ {l m:List α},l.Nodup→(∀x ∈ l,x ∈ m)→l.length≤m.length
 | [],m,_,_=>Nat.zero_le _
 | x :: l,m,h,hs=>by
   have hx:=hs x (by simp)
   have h1:=List.nodup_cons.1 h;have:=Xgm (l:=l) (m:=m.erase x) h1.2 (fun y hy=>by
    have hne:y ≠ x:=fun e=>h1.1 (e ▸ hy);exact (List.mem_erase_of_ne hne).2 (hs y (by simp[hy])))
   have h2:=List.length_erase_of_mem hx;have h3:0<m.length:=List.length_pos_of_mem hx;rw[List.length_cons];omega
def Xdo:Nat→List (List Spn)→List (Nat × Int)
 | _, [] => []
 | n,r :: l=>r.map (fun s=>(n,s.frm)) ++ Xdo (n+1) l
theorem Xge:∀(n:Nat)(l:List (List Spn)),(Xdo n l).length=(l.map List.length).sum
 | _, [] => rfl
 | n,r :: l=>by simp[Xdo,Xge (n+1) l]
theorem Xgd:∀ {n:Nat}{l:List (List Spn)}{k:Nat}{s:Spn},s ∈ l.getD k [] → (n+k,s.frm) ∈ Xdo n l
 | n, [],k,s,h=>by simp at h
 | n,r :: l,0,s,h=>by
   simp only[List.getD_cons_zero] at h;simp only[Xdo,List.mem_append,List.mem_map,Nat.add_zero];exact .inl ⟨s,h,rfl⟩
 | n,r :: l,k+1,s,h=>by
   simp only[List.getD_cons_succ] at h;have:=Xgd (n:=n+1) h;simp only[Xdo,List.mem_append];exact .inr (by rwa [show n+(k+1)=n+1+k by omega])
theorem Inv.few {g:Grf}{s:List Lab × List Lab}(h:Inv g s):s.1.length≤keyN g:=by
 have h1:=Xge 0 g.rooms;have h2:(s.1.map fun y=>(y.node.toNat,y.frm)).Nodup:=by
  rw[List.nodup_iff_pairwise_ne,List.pairwise_map];refine h.apart.imp_of_mem (fun {a b} ha hb hn he=>?_);simp only[Prod.mk.injEq] at he;have fa:=h.fine a (List.mem_append.2 (.inl ha));have fb:=h.fine b (List.mem_append.2 (.inl hb));have:a.node=b.node:=by have:=fa.2.1; have:=fb.2.1; omega
  have:same a b=true:=same_iff.2 ⟨this,he.2⟩;rw[this] at hn;cases hn
 have h3:=Xgm (m:=Xdo 0 g.rooms) h2 (fun x hx=>by
  obtain ⟨y,hy,rfl⟩:=List.mem_map.1 hx;have fy:=h.fine y (List.mem_append.2 (.inl hy));have:=Xgd (n:=0) fy.2.2.1;simpa using this)
 rw[List.length_map] at h3;unfold keyN;omega
def Xfn (g:Grf):List Lab:=(Xb0 g (keyN g)).1
theorem Xhi {g:Grf}{k:Nat}(h:(Xb0 g k).2 = []):∀n,Xb0 g (k+n)=Xb0 g k
 | 0=>rfl
 | n+1=>by
   have ih:=Xhi h n;show Xi2 g (Xb0 g (k+n))=_;rw[ih];generalize Xb0 g k=s at h;obtain ⟨a,b⟩:=s;simp only at h;subst h
   rfl
theorem Xrv {g:Grf}(hg:GOK g){k:Nat}(hk:∀j<k,(Xb0 g j).2 ≠ [])(h:(Xb0 g k).2 = []):(Xb0 g k).1=Xfn g∧(Xb0 g (keyN g)).2 = []:=by
 have h1:=Xgt hk;have h2:=(Xej hg k).few;obtain ⟨n,hn⟩:∃n,keyN g=k+n:=⟨keyN g - k,by omega⟩
 have h3:=Xhi h n;unfold Xfn;rw[hn,h3];exact ⟨rfl,h⟩
theorem Xoj {g:Grf}(hg:GOK g):(Xb0 g (keyN g)).2 = []:=by
 apply Classical.byContradiction;intro hne;have hall:∀j<keyN g+1,(Xb0 g j).2 ≠ []:=by
  intro j hj he;have:=Xhi he (keyN g - j);rw[show j+(keyN g - j)=keyN g by omega] at this
  rw[this] at hne;exact hne he
 have h1:=Xgt hall;have h2:=(Xej hg (keyN g+1)).few;omega
structure Labs (g:Grf)(L:List Lab):Prop where
 fine:∀y ∈ L,Fine g y
 sound:∀y ∈ L,Start g y ∨ ∃x ∈ L,∃h,(y,h) ∈ Xag g x
 closed:∀x ∈ L,∀y h,(y,h) ∈ Xag g x→y.node ≠ g.dst → ∃z ∈ L,same z y=true∧z.time≤y.time
 start:∀y,Start g y → ∃z ∈ L,same z y=true∧z.time≤y.time
 few:L.length≤keyN g
theorem Xjq {g:Grf}(hg:GOK g):Labs g (Xfn g):=by
 have h:=Xej hg (keyN g);have he:=Xoj hg;have hf:=h.few;unfold Xfn;generalize Xb0 g (keyN g)=s at h he hf;obtain ⟨a,b⟩:=s;simp only at he;subst he;refine ⟨fun y hy=>h.fine y (by simpa using hy),fun y hy=>h.sound y (by simpa using hy),fun x hx y k hm hn=>?_,fun y hy=>?_,hf⟩
 ·simpa using h.closed x hx y k hm hn
 ·simpa using h.start y hy
theorem Labs.perm {g:Grf}{L M:List Lab}(h:Labs g L)(hp:M.Perm L):Labs g M where
 fine:=fun y hy=>h.fine y (hp.mem_iff.1 hy)
 sound:=fun y hy=>by
  rcases h.sound y (hp.mem_iff.1 hy) with h1 | ⟨x,hx,k⟩
  ·exact .inl h1
  ·exact .inr ⟨x,hp.mem_iff.2 hx,k⟩
 closed:=fun x hx y k hm hn=>by
  obtain ⟨z,hz,h1⟩:=h.closed x (hp.mem_iff.1 hx) y k hm hn;exact ⟨z,hp.mem_iff.2 hz,h1⟩
 start:=fun y hy=>by
  obtain ⟨z,hz,h1⟩:=h.start y hy;exact ⟨z,hp.mem_iff.2 hz,h1⟩
 few:=by rw[hp.length_eq]; exact h.few
theorem Xoi {g:Grf}(hg:GOK g):∀a ∈ Xfn g,∀b ∈ Xfn g,same a b=true→a=b:=by
 intro a ha b hb hs;have hp:=(Xej hg (keyN g)).apart;unfold Xfn at ha hb;generalize (Xb0 g (keyN g)).1=l at ha hb hp;clear hg
 induction l with
 | nil=>simp at ha
 | cons x l ih =>
   obtain ⟨h1,h2⟩:=List.pairwise_cons.1 hp;rcases List.mem_cons.1 ha with e1 | e1
   ·rcases List.mem_cons.1 hb with e2 | e2
    ·rw[e1,e2]
    ·have:=h1 b e2;rw[←e1,hs] at this;cases this
   ·rcases List.mem_cons.1 hb with e2 | e2
    ·have:=h1 a e1;rw[←e2,Xkv,hs] at this;cases this
    ·exact ih e1 e2 h2
structure Xty (g:Grf)(FC:Nat→Int→Int→Prop)(FN:Int→Int→Int→Prop):Prop where
 gapS:∀(i:Nat) (c:Ct) (s:Spn),g.cs[i]? = some c→s ∈ g.gaps.getD i [] → ∀b e,s.frm≤b→e≤s.til→FC i b e
 gapC:∀(i:Nat) (c:Ct) (b e:Int),g.cs[i]? = some c→b<e→FC i b e → ∃s ∈ g.gaps.getD i [],s.frm≤b∧e≤s.til
 gapO:∀(i:Nat),(g.gaps.getD i []).Pairwise fun a b=>a.frm≤b.frm
 roomS:∀(n:Int) (r:Spn),0≤n→r ∈ g.rooms.getD n.toNat [] → ∀b e,r.frm≤b→e≤r.til→FN n b e
 roomC:∀(n b e:Int),0≤n→b<e→FN n b e → ∃r ∈ g.rooms.getD n.toNat [],r.frm≤b∧e≤r.til
 roomO:∀(n:Nat),(g.rooms.getD n []).Pairwise fun a b=>a.til≤b.frm
 roomP:∀(n:Nat),∀r ∈ g.rooms.getD n [],r.frm<r.til
 fcP:∀(i:Nat) (c:Ct) (b e:Int),g.cs[i]? = some c→FC i b e→0≤b
 pos:∀(i:Nat) (c:Ct),g.cs[i]? = some c→1≤g.durs.getD i 0∧0≤c.src
structure Stp (g:Grf)(FC:Nat→Int→Int→Prop)(FN:Int→Int→Int→Prop)(n f a:Int)(i:Nat)(c:Ct)(h:Hop):Prop where
 ct:g.cs[i]? = some c
 eq:h=⟨i,h.beg,h.beg+g.durs.getD i 0,h.beg+g.durs.getD i 0+c.rng⟩
 src:c.src=n
 nd:n ≠ g.dst
 aft:a≤h.beg
 le:f≤a
 fc:FC i h.beg h.fin
 fn:FN n f (Xav g.cust c h)
inductive Way (g:Grf)(FC:Nat→Int→Int→Prop)(FN:Int→Int→Int→Prop):Int→Int→Int→List Hop→Prop
 | last {n f a:Int} {i:Nat} {c:Ct} {h:Hop}:Stp g FC FN n f a i c h→c.dst=g.dst→h.arr≤g.dead→Way g FC FN n f a [h]
 | cons {n f a:Int} {i:Nat} {c:Ct} {h:Hop} {l:List Hop}:Stp g FC FN n f a i c h→Way g FC FN c.dst h.beg h.arr l→Way g FC FN n f a (h :: l)
def Xac:List Hop→Int
 | [] => 0
 | [h] => h.arr
 | _ :: k :: l=>Xac (k :: l)
variable {g:Grf} {FC:Nat→Int→Int→Prop} {FN:Int→Int→Int→Prop}
theorem Xrs (hg:GOK g){c:Ct}(hc:c ∈ g.cs){h:Hop}{cust:Bool}:h.fin≤Xav cust c h:=by
 have:=hg.rng c hc;unfold Xav; split <;> omega
inductive Xc1 (g:Grf)(L:List Lab)(at_:Int):Lab→List Hop→List Lab→Prop
 | last {x y:Lab} {h:Hop}:x ∈ L→(y,h) ∈ Xag g x→y.node=g.dst→y.time=at_→Xc1 g L at_ x [h] [x]
 | cons {x y z:Lab} {h:Hop} {hs:List Hop} {xs:List Lab}:x ∈ L→(y,h) ∈ Xag g x→z ∈ L→same y z=true→y.time=z.time→Xc1 g L at_ z hs xs→Xc1 g L at_ x (h :: hs) (x :: xs)
theorem Xc1.head {L:List Lab}{at_:Int}{x:Lab}{hs:List Hop}{xs:List Lab}(h:Xc1 g L at_ x hs xs):∃l,xs=x :: l:=by
 cases h with
 | last=>exact ⟨_,rfl⟩
 | cons=>exact ⟨_,rfl⟩
theorem Xc1.len {L:List Lab}{at_:Int}{x:Lab}{hs:List Hop}{xs:List Lab}(h:Xc1 g L at_ x hs xs):xs.length=hs.length:=by
 induction h with
 | last=>rfl
 | cons _ _ _ _ _ _ ih=>simp[ih]
theorem Xc1.sub {L:List Lab}{at_:Int}{x:Lab}{hs:List Hop}{xs:List Lab}(h:Xc1 g L at_ x hs xs):∀y ∈ xs,y ∈ L:=by
 induction h with
 | last h1=>intro y hy; rw[List.mem_singleton.1 hy]; exact h1
 | cons h1 _ _ _ _ _ ih =>
   intro y hy;rcases List.mem_cons.1 hy with e | e
   ·rw[e]; exact h1
   ·exact ih y e
theorem Xc1.times (hg:GOK g){L:List Lab}{at_:Int}{x:Lab}{hs:List Hop}{xs:List Lab}(h:Xc1 g L at_ x hs xs):xs.Pairwise (fun a b=>a.time<b.time) ∧ ∀y ∈ xs,x.time≤y.time:=by
 induction h with
 | last=>simp
 | cons h1 h2 _ _ h5 h6 ih =>
   have ht:=((Xaz.1 h2).time hg).2.2.2.2.1;refine ⟨List.pairwise_cons.2 ⟨fun y hy=>?_,ih.1⟩,fun y hy=>?_⟩
   ·have:=ih.2 y hy; omega
   ·rcases List.mem_cons.1 hy with e | e
    ·rw[e]; exact Int.le_refl _
    ·have:=ih.2 y e; omega
theorem Xc1.few (hg:GOK g){L:List Lab}{at_:Int}{x:Lab}{hs:List Hop}{xs:List Lab}(h:Xc1 g L at_ x hs xs):hs.length≤L.length:=by
 rw[←h.len];refine Xgm ?_ h.sub;rw[List.nodup_iff_pairwise_ne];exact (h.times hg).1.imp (fun {a b} hlt e=>by rw[e] at hlt; omega)
theorem Xc1.end_ (hg:GOK g){L:List Lab}{at_:Int}{x:Lab}{hs:List Hop}{xs:List Lab}(h:Xc1 g L at_ x hs xs):Xac hs=at_∧hs ≠ []:=by
 induction h with
 | last h1 h2 h3 h4=>exact ⟨by rw[←h4]; exact ((Xaz.1 h2).time hg).2.2.2.1.symm,by simp⟩
 | cons _ _ _ _ _ h6 ih =>
   rename_i hs xs h1 h2 h3 h4 h5
   obtain ⟨e1,e2⟩:=ih;refine ⟨?_,by simp⟩
   cases hs with
   | nil=>exact absurd rfl e2
   | cons k l=>exact e1
theorem Xc1.way (hg:GOK g)(hf:Xty g FC FN){L:List Lab}(hL:Labs g L){at_:Int}{x:Lab}{hs:List Hop}{xs:List Lab}(h:Xc1 g L at_ x hs xs) :
  (∀f,x.frm≤f→f≤x.time→Way g FC FN x.node f x.time hs)∧hs.Pairwise (fun a b=>a.fin≤b.beg) ∧ ∀k ∈ hs,x.time≤k.beg:=by
 have stp:∀ {x y:Lab} {h:Hop},x ∈ L→(y,h) ∈ Xag g x → ∃i c,y.node=c.dst∧y.time=h.arr∧h.arr≤g.dead∧y.frm≤h.beg ∧ ∀f,x.frm≤f→f≤x.time→Stp g FC FN x.node f x.time i c h:=by
  intro x y h hx hm;have ht:=(Xaz.1 hm).time hg;obtain ⟨i,c,r,h1,h2,h3,h4,h5,rfl⟩:=Xaz.1 hm;obtain ⟨s,hs1,e3,e4,e5,e6⟩:=Xe5 h4;have e7:h.fin=h.beg+g.durs.getD i 0:=by rw[e6]
  unfold mvOk at h5;obtain ⟨h6,h7,h8⟩:=of_decide_eq_true h5;have fx:=hL.fine x hx;refine ⟨i,c,rfl,rfl,h7,ht.2.2.2.2.2,fun f hf1 hf2=>⟨h1,e6,h2,fx.1,ht.1,hf2,hf.gapS i c s h1 hs1 _ _ e3 (by omega),hf.roomS x.node _ fx.2.1 fx.2.2.1 _ _ hf1 h6⟩⟩
 induction h with
 | last h1 h2 h3 h4 =>
   rename_i x y h
   obtain ⟨i,c,e1,e2,e3,e4,e5⟩:=stp h1 h2;have ht:=(Xaz.1 h2).time hg;refine ⟨fun f hf1 hf2=>Way.last (e5 f hf1 hf2) (by rw[←e1]; exact h3) e3,by simp,fun k hk=>?_⟩
   rw[List.mem_singleton.1 hk]; exact ht.1
 | cons h1 h2 h3 h4 h5 h6 ih =>
   rename_i x y z h hs xs
   obtain ⟨i,c,e1,e2,e3,e4,e5⟩:=stp h1 h2;obtain ⟨i1,i2,i3⟩:=ih;have ht:=(Xaz.1 h2).time hg;obtain ⟨s1,s2⟩:=same_iff.1 h4;refine ⟨fun f hf1 hf2=>Way.cons (e5 f hf1 hf2) ?_,List.pairwise_cons.2 ⟨fun k hk=>?_,i2⟩,fun k hk=>?_⟩
   ·have:=i1 h.beg (by omega) (by omega)
    rwa [←s1,e1, ←h5,e2] at this
   ·have:=i3 k hk; omega
   ·rcases List.mem_cons.1 hk with e | e
    ·rw[e]; exact ht.1
    ·have:=i3 k e; omega
structure Hd3 where
 node:Int
 frm:Int
 til:Int
 deriving DecidableEq
def Xfo (cs:List Ct)(cust:Bool):Int→Int→List Hop→List Hd3
 | _,_, [] => []
 | n,f,h :: l=>match cs[h.ct.toNat]? with
   | none => []
   | some c=>⟨n,f,Xav cust c h⟩ :: Xfo cs cust c.dst h.beg l
theorem Xc1.holds (hg:GOK g)(hf:Xty g FC FN){L:List Lab}(hL:Labs g L)(hA:∀a ∈ L,∀b ∈ L,same a b=true→a=b){at_:Int}{x:Lab}{hs:List Hop}{xs:List Lab}(h:Xc1 g L at_ x hs xs) :
  ∀f,x.frm≤f→f≤x.time→(Xfo g.cs g.cust x.node f hs).Pairwise (fun a b=>a.node=b.node→a.til≤b.frm∨b.til≤a.frm) ∧ ∀k ∈ Xfo g.cs g.cust x.node f hs,∃y ∈ xs,y.node=k.node∧y.frm≤k.frm∧k.til≤y.til∧k.frm<k.til∧FN k.node k.frm k.til:=by
 have hsub:=fun {x hs xs} (h:Xc1 g L at_ x hs xs)=>h.sub;have one:∀ {x y:Lab} {h:Hop} (f:Int),x ∈ L→(y,h) ∈ Xag g x→x.frm≤f→f≤x.time → ∃c,g.cs[h.ct.toNat]? = some c∧y.node=c.dst∧y.time=h.arr∧y.frm≤h.beg∧Xav g.cust c h≤x.til∧f<Xav g.cust c h∧FN x.node f (Xav g.cust c h):=by
  intro x y h f hx hm hf1 hf2;have ht:=(Xaz.1 hm).time hg;obtain ⟨i,c,r,h1,h2,h3,h4,h5,rfl⟩:=Xaz.1 hm;obtain ⟨s,hs1,e3,e4,e5,e6⟩:=Xe5 h4;have e7:h.fin=h.beg+g.durs.getD i 0:=by rw[e6]
  have e8:h.ct=i:=by rw[e6]
  have hp:=hf.pos i c h1;have hlv:=Xrs hg (List.mem_of_getElem? h1) (h:=h) (cust:=g.cust);unfold mvOk at h5;obtain ⟨h6,h7,h8⟩:=of_decide_eq_true h5;have fx:=hL.fine x hx;exact ⟨c,by rw[e8]; simpa using h1,rfl,rfl,ht.2.2.2.2.2,h6,by omega,hf.roomS x.node _ fx.2.1 fx.2.2.1 _ _ hf1 h6⟩
 induction h with
 | last h1 h2 h3 h4 =>
   rename_i x y h
   intro f hf1 hf2;obtain ⟨c,e1,e2,e3,e4,e5,e6,e7⟩:=one f h1 h2 hf1 hf2;simp only[Xfo,e1];refine ⟨by simp,fun k hk=>?_⟩
   rw[List.mem_singleton.1 hk];exact ⟨x,by simp,rfl,hf1,e5,e6,e7⟩
 | cons h1 h2 h3 h4 h5 h6 ih =>
   rename_i x y z h hs xs
   intro f hf1 hf2;have htm:=(Xc1.cons h1 h2 h3 h4 h5 h6).times hg;have hxs:=(Xc1.cons h1 h2 h3 h4 h5 h6).sub;obtain ⟨c,e1,e2,e3,e4,e5,e6,e7⟩:=one f h1 h2 hf1 hf2;have ht:=(Xaz.1 h2).time hg;obtain ⟨s1,s2⟩:=same_iff.1 h4;obtain ⟨i1,i2⟩:=ih h.beg (by omega) (by omega)
   rw[show z.node=c.dst by rw[←s1,e2]] at i1 i2
   simp only[Xfo,e1];refine ⟨List.pairwise_cons.2 ⟨fun k hk hn=>?_,i1⟩,fun k hk=>?_⟩
   ·obtain ⟨y',hy',k1,k2,k3,k4,k5⟩:=i2 k hk;have hlt:=(List.pairwise_cons.1 htm.1).1 y' hy';have hyL:=hxs y' (by simp[hy'])
    have fx:=hL.fine x h1;have fy:=hL.fine y' hyL;have hn':x.node=y'.node:=by rw[k1]; exact hn
    have hne:x.frm ≠ y'.frm:=by
     intro e;have:=hA x h1 y' hyL (same_iff.2 ⟨hn',e⟩);rw[this] at hlt;omega
    have hy3:=fy.2.2.1;rw[←hn'] at hy3;have hap:(⟨x.frm,x.til⟩:Spn).til≤(⟨y'.frm,y'.til⟩:Spn).frm∨(⟨y'.frm,y'.til⟩:Spn).til≤(⟨x.frm,x.til⟩:Spn).frm:=by
     have ho:=hf.roomO x.node.toNat;have hx3:=fx.2.2.1;generalize g.rooms.getD x.node.toNat [] = l at ho hx3 hy3;clear ih i1 i2 htm hxs one hsub hk
     induction l with
     | nil=>simp at hx3
     | cons s l ih =>
       obtain ⟨o1,o2⟩:=List.pairwise_cons.1 ho;rcases List.mem_cons.1 hx3 with a1 | a1
       ·rcases List.mem_cons.1 hy3 with b1 | b1
        ·exact absurd (congrArg Spn.frm (a1.trans b1.symm)) hne
        ·left; rw[a1]; exact o1 _ b1
       ·rcases List.mem_cons.1 hy3 with b1 | b1
        ·right; rw[b1]; exact o1 _ a1
        ·exact ih o2 a1 b1
    simp only at hap ⊢;rcases hap with hap | hap
    ·left; omega
    ·right; omega
   ·rcases List.mem_cons.1 hk with e | e
    ·rw[e]; exact ⟨x,by simp,rfl,hf1,e5,e6,e7⟩
    ·obtain ⟨y',hy',k'⟩:=i2 k e;exact ⟨y',by simp[hy'],k'⟩
end Go.Proofs.YtebkgbmijocdjaaGreat.Tp
