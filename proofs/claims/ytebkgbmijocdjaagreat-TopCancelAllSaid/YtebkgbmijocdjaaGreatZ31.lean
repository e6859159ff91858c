/- A part of the proof for the ledger. No condition beyond those that each theorem states. -/
import Derived.Deep.Upon
import Derived.Test.YtebkgbmijocdjaaGreatZ30
set_option maxHeartbeats 32000000
set_option maxRecDepth 100000
set_option linter.unusedVariables false
set_option linter.unusedSimpArgs false
namespace Go.Proofs.YtebkgbmijocdjaaGreat.Tp
open Go Go.RowKit Go.Lib
theorem Xj8 {P:Program}{w:World} {α:Type}(E:Enc α)(base:Nat)(t ty e:TypeId)(i:TypeInfo)(z:Value)(bytes:Nat)(ht:P.underlying t=some (.slice e))(hi:P.info? e=some i)(hz:i.zero=some z)
  (hsize:i.size=E.k) (hby:i.bytes=bytes) (hzs:z.cells.size=E.k) (hsz:0<E.k) (v:Value) (n:Nat) (xs:List Value) (hown:w.ownsRow base e E.k v n xs) (A:Option Addr) (L:List α) (c:Nat) (hA:SlAt E w A L)
  (h63:n+L.length≤maxLen) (hbytes:(n+L.length) * bytes≤140737488355328) (hbase:base≤w.heap.size) :
  ∃v' w',(Builtin.append_ #[t,t] ty #[v,.slice A L.length c]).run P w = .ok v' w' ∧ w'.ownsRow base e E.k v' (n+L.length) (xs ++ L.flatMap E.f)∧w.grownBy w' v.ownBlock∧(v'.ownBlock=v.ownBlock∨v'.ownBlock=some w.heap.size):=by
 cases hL:L with
 | nil =>
   have hs:Src P i.size t (.slice A 0 c) 0 [] w:=by
    cases A with
    | none=>exact Src.ofNil w ht c
    | some a=>exact Src.ofSlice w ht a 0 c [] (by simp) (by simp) (by simp)
   have hv:∃B k,v = .slice B n k∧n≤k:=by
    rcases hown.2 with ⟨rfl,rfl⟩ | ⟨g,cap,cur,rfl,_,_,hc,_⟩
    ·exact ⟨none,0,rfl,Nat.le_refl _⟩
    ·exact ⟨_,_,rfl,hc⟩
   obtain ⟨B,k,rfl,hk⟩:=hv;refine ⟨_,w,run_append_nothing w t t ty e i ht hi B n k hk _ hs,?_,grown_below (Below.refl _ _) _,.inl rfl⟩;simpa using hown
 | cons x l =>
   rw[←hL];obtain ⟨b,off,rfl,_⟩:=hA 0 x (by rw[hL]; rfl)
   obtain ⟨v',w',h1,h2,h3,_,h5⟩:=run_append_own_at (P:=P) w base t ty e i z E.k bytes ht hi hz hsize hby hzs hsz v n xs hown ⟨b,off,none⟩ L.length c (L.flatMap E.f) (Xan L) (fun j u hu=>by rw[Addr.add_mid]; exact Xg7 hA j u hu) (Xjx L) h63 hbytes hbase
   exact ⟨v',w',h1,h2,h3,h5⟩
theorem Xaq {P:Program}{w:World} {α:Type}{o:Oper}{a:Act}{K:Act→World→Prop}{Q:Exit→Act→World→Prop}(E:Enc α)(s x:Operand)(t e:TypeId)(ho:o.op = .call { callee:=.builtin .append,args := #[s,x],argTypes := #[t,t] })
  (base:Nat) (i:TypeInfo) (z:Value) (bytes:Nat) (ht:P.underlying t=some (.slice e)) (hi:P.info? e=some i) (hz:i.zero=some z) (hsize:i.size=E.k) (hby:i.bytes=bytes) (hzs:z.cells.size=E.k) (hsz:0<E.k)
  (v:Value) (n:Nat) (xs:List Value) (hs:a.eval s=v) (hown:w.ownsRow base e E.k v n xs) (A:Option Addr) (L:List α) (c:Nat) (hx:a.eval x = .slice A L.length c) (hA:SlAt E w A L)
  (h63:n+L.length≤maxLen) (hbytes:(n+L.length) * bytes≤140737488355328) (hbase:base≤w.heap.size)
  (h:∀v' w',w'.ownsRow base e E.k v' (n+L.length) (xs ++ L.flatMap E.f)→w.grownBy w' v.ownBlock→(v'.ownBlock=v.ownBlock∨v'.ownBlock=some w.heap.size)→K (a.put o.dst v') w'):o.wp P a w K Q:=by
 obtain ⟨v',w',hr,h2,h3,h5⟩:=Xj8 (P:=P) E base t o.type e i z bytes ht hi hz hsize hby hzs hsz v n xs hown A L c hA h63 hbytes hbase;unfold Oper.wp execOp;simp only[ho,resolve,invoke,builtin,Sem.run_bind,Sem.run_pure,Result.andThen_ok,List.map_toArray,List.map_cons,List.map_nil,hs,hx,hr];exact h v' w' h2 h3 h5
theorem Xdv {P:Program}{w:World} {α:Type}{ops:Array Oper}{rest:List Oper}{o:Oper}{a:Act}{Q:Exit→Act→World→Prop}(E:Enc α)(hgd:o.guard=none)(s x:Operand)(t e:TypeId)(ho:o.op = .call { callee:=.builtin .append,args := #[s,x],argTypes := #[t,t] })
  (base:Nat) (i:TypeInfo) (z:Value) (bytes:Nat) (ht:P.underlying t=some (.slice e)) (hi:P.info? e=some i) (hz:i.zero=some z) (hsize:i.size=E.k) (hby:i.bytes=bytes) (hzs:z.cells.size=E.k) (hsz:0<E.k)
  (v:Value) (n:Nat) (xs:List Value) (hs:a.eval s=v) (hown:w.ownsRow base e E.k v n xs) (A:Option Addr) (L:List α) (c:Nat) (hx:a.eval x = .slice A L.length c) (hA:SlAt E w A L)
  (h63:n+L.length≤maxLen) (hbytes:(n+L.length) * bytes≤140737488355328) (hbase:base≤w.heap.size)
  (h:∀v' w',w'.ownsRow base e E.k v' (n+L.length) (xs ++ L.flatMap E.f)→w.grownBy w' v.ownBlock→(v'.ownBlock=v.ownBlock∨v'.ownBlock=some w.heap.size)→wpList P ops Q rest (a.put o.dst v') w'):wpList P ops Q (o :: rest) a w :=
 wpList_plain hgd fun K hK=>Xaq E s x t e ho base i z bytes ht hi hz hsize hby hzs hsz v n xs hs hown A L c hx hA h63 hbytes hbase fun v' w' h1 h2 h3=>hK _ _ (h v' w' h1 h2 h3)
theorem Xps {W:World}{base base':Nat}{t u:TypeId}{k k' n n':Nat}{v v':Value}{xs xs':List Value}(h:W.ownsRow base t k v n xs)(h':W.ownsRow base' u k' v' n' xs')(htu:t ≠ u){r:Nat}(hr:v.ownBlock=some r):v'.ownBlock ≠ some r:=by
 rcases h.2 with ⟨rfl,_⟩ | ⟨g,cap,cur,rfl,_,hg,_⟩
 ·cases hr
 ·obtain rfl:g=r:=Option.some.inj hr;exact fun e=>Xa1 (show Bk W g t cur from hg) htu h' e.symm
theorem Xbz {W W':World}{base base':Nat}{t u:TypeId}{k k' n n':Nat}{v v':Value}{xs xs':List Value}(h:W.ownsRow base t k v n xs)(h':W.ownsRow base' u k' v' n' xs')(htu:t ≠ u)(hg:W.grownBy W' v.ownBlock):W'.ownsRow base' u k' v' n' xs' :=
 h'.kept hg (by
  cases hv:v'.ownBlock with
  | none=>exact .inl rfl
  | some r=>exact .inr (fun e=>Xps h' h (Ne.symm htu) hv (by rw[←e])))
theorem Xsv:(Tryz.prog.info? 55).map (fun i=>(i.zero,i.size,i.bytes))=some (some (.agg #[.int .i64 0,.int .i64 0,.int .i64 0,.int .i64 0,.int .i64 0,.int .i64 0,.int .i64 0,.bool false,.slice none 0 0,.int .i64 0,.int .i64 0]),11,104):=by kernel_rfl
theorem Xrx (A:Option Addr)(cA:Nat)(l:List Hop)(w:World)(hA:SlAt hpE w A l)(hl:l.length≤1000000) :
  Calls Tryz.prog 127 #[.slice A l.length cA] w (Xr5 41 hpE l w):=by
 cases A with
 | none =>
   have h0:l = []:=by
    cases l with
    | nil=>rfl
    | cons x l=>obtain ⟨b,off,hb,_⟩:=hA 0 x rfl; cases hb
   subst h0;have hn:=fun (w:World)=>Lib.run_eql_slice_nil (P:=Tryz.prog) w 37 41 none 0 cA 0 0 Tryz.underlying37;go_enter Tryz.func127,Tryz.ntmps127;go_wp2;go_ret;exact ⟨_,rfl,World.ownsRow_nil _ _ _ _,Below.refl _ _⟩
 | some ad =>
   obtain ⟨b0,o0,e0⟩:=ad;obtain ⟨i0,hi0,hz0,hz1,hz2⟩:=info_parts Xnj;have hn:=fun (w:World)=>Lib.run_eql_slice_nil (P:=Tryz.prog) w 37 41 (some ⟨b0,o0,e0⟩) l.length cA 0 0 Tryz.underlying37;have HA:=Lib.hid hA;have HO:Hid ((w.alloc (.cells #[] 41)).ownsRow w.heap.size 41 4 (.slice (some ⟨w.heap.size,0,none⟩) 0 0) 0 []):=World.ownsRow_made w #[] 0 (Nat.le_refl _) (by unfold maxLen; omega) rfl
   have HN:Hid (∀j u,(l.flatMap hpE.f)[j]? = some u→(w.alloc (.cells #[] 41)).cell? ((⟨b0,o0,e0⟩:Addr).add j)=some u):=by
    intro j u hj;cases hl0:l with
    | nil=>rw[hl0] at hj; simp at hj
    | cons x l' =>
      obtain ⟨b,off,hb,_⟩:=hA 0 x (by rw[hl0]; rfl)
      cases hb;have:=Xg7 (hA.below ((Below.refl w.heap.size w).alloc (Nat.le_refl _) (.cells #[] 41))) j u hj;rw[Addr.add_lit];exact this
   clear hA;go_enter Tryz.func127,Tryz.ntmps127;go_wp2_with (at_builtin; refine wpList_append_own_at _ rfl _ _ 37 rfl w.heap.size 41 i0 (.agg #[.int .i64 0,.int .i64 0,.int .i64 0,.int .i64 0]) 4 32 Tryz.underlying37 hi0 hz0 hz1 hz2 rfl (by decide) _ _ _ rfl HO.out ⟨b0,o0,e0⟩ l.length cA (l.flatMap hpE.f) rfl (Xan (E:=hpE) l) HN.out ?d2 ?d3 ?d4 ?d5 ?_)
   case d2=>exact Xjx (E:=hpE) l
   case d3=>unfold maxLen; omega
   case d4=>omega
   case d5=>simp
   intro v' w4 hown' hg' _ _;have HW:Hid (w4.ownsRow w.heap.size 41 4 v' l.length (l.flatMap hpE.f)):=hown';have HB:Hid (Below w.heap.size w w4):=((Below.refl _ _).alloc (Nat.le_refl _) _).grown hg' (by simp) (fun j hj=>by simp[Value.ownBlock] at hj; omega)
   clear hown' hg';go_wp2;go_ret;exact ⟨_,rfl,HW.out,HB.out⟩
theorem Xre (A:Option Addr)(cA:Nat)(l:List Tm)(w:World)(hA:SlAt tmE w A l)(hl:l.length≤1000000) :
  Calls Tryz.prog 121 #[.slice A l.length cA] w (Xr5 55 tmE l w):=by
 cases A with
 | none =>
   have h0:l = []:=by
    cases l with
    | nil=>rfl
    | cons x l=>obtain ⟨b,off,hb,_⟩:=hA 0 x rfl; cases hb
   subst h0;have hn:=fun (w:World)=>Lib.run_eql_slice_nil (P:=Tryz.prog) w 51 55 none 0 cA 0 0 Tryz.underlying51;go_enter Tryz.func121,Tryz.ntmps121;go_wp2;go_ret;exact ⟨_,rfl,World.ownsRow_nil _ _ _ _,Below.refl _ _⟩
 | some ad =>
   obtain ⟨b0,o0,e0⟩:=ad;obtain ⟨i0,hi0,hz0,hz1,hz2⟩:=info_parts Xsv;have hn:=fun (w:World)=>Lib.run_eql_slice_nil (P:=Tryz.prog) w 51 55 (some ⟨b0,o0,e0⟩) l.length cA 0 0 Tryz.underlying51;have HA:=Lib.hid hA;have HO:Hid ((w.alloc (.cells #[] 55)).ownsRow w.heap.size 55 11 (.slice (some ⟨w.heap.size,0,none⟩) 0 0) 0 []):=World.ownsRow_made w #[] 0 (Nat.le_refl _) (by unfold maxLen; omega) rfl
   have HN:Hid (∀j u,(l.flatMap tmE.f)[j]? = some u→(w.alloc (.cells #[] 55)).cell? ((⟨b0,o0,e0⟩:Addr).add j)=some u):=by
    intro j u hj;cases hl0:l with
    | nil=>rw[hl0] at hj; simp at hj
    | cons x l' =>
      obtain ⟨b,off,hb,_⟩:=hA 0 x (by rw[hl0]; rfl)
      cases hb;have:=Xg7 (hA.below ((Below.refl w.heap.size w).alloc (Nat.le_refl _) (.cells #[] 55))) j u hj;rw[Addr.add_lit];exact this
   clear hA;go_enter Tryz.func121,Tryz.ntmps121;go_wp2_with (at_builtin; refine wpList_append_own_at _ rfl _ _ 51 rfl w.heap.size 55 i0 (.agg #[.int .i64 0,.int .i64 0,.int .i64 0,.int .i64 0,.int .i64 0,.int .i64 0,.int .i64 0,.bool false,.slice none 0 0,.int .i64 0,.int .i64 0]) 11 104 Tryz.underlying51 hi0 hz0 hz1 hz2 rfl (by decide) _ _ _ rfl HO.out ⟨b0,o0,e0⟩ l.length cA (l.flatMap tmE.f) rfl (Xan (E:=tmE) l) HN.out ?d2 ?d3 ?d4 ?d5 ?_)
   case d2=>exact Xjx (E:=tmE) l
   case d3=>unfold maxLen; omega
   case d4=>omega
   case d5=>simp
   intro v' w4 hown' hg' _ _;have HW:Hid (w4.ownsRow w.heap.size 55 11 v' l.length (l.flatMap tmE.f)):=hown';have HB:Hid (Below w.heap.size w w4):=((Below.refl _ _).alloc (Nat.le_refl _) _).grown hg' (by simp) (fun j hj=>by simp[Value.ownBlock] at hj; omega)
   clear hown' hg';go_wp2;go_ret;exact ⟨_,rfl,HW.out,HB.out⟩
theorem Xmb {w w0:World}{g n0:Nat}{T:TypeId}{c0 c1 c2 c3:Value}(h:Bk w g T #[c0,c1,c2,c3])(hb:Below n0 w0 w)(hg:n0≤g)(v0 v1 v2 v3:Value) :
  Bk ((((w.setCell ⟨g,0,none⟩ v0).setCell ⟨g,1,none⟩ v1).setCell ⟨g,2,none⟩ v2).setCell ⟨g,3,none⟩ v3) g T #[v0,v1,v2,v3] ∧ Below n0 w0 ((((w.setCell ⟨g,0,none⟩ v0).setCell ⟨g,1,none⟩ v1).setCell ⟨g,2,none⟩ v2).setCell ⟨g,3,none⟩ v3):=by
 have h0:=h;have h1:=h0.put 0 v0;simp only[List.setIfInBounds_toArray,List.set_cons_zero] at h1;have h2:=h1.put 1 v1;simp only[List.setIfInBounds_toArray,List.set_cons_zero,List.set_cons_succ] at h2;have h3:=h2.put 2 v2;simp only[List.setIfInBounds_toArray,List.set_cons_zero,List.set_cons_succ] at h3;have h4:=h3.put 3 v3;simp only[List.setIfInBounds_toArray,List.set_cons_zero,List.set_cons_succ] at h4;exact ⟨h4,((((hb.setCell (p:=⟨g,0,none⟩) hg v0).setCell (p:=⟨g,1,none⟩) hg v1).setCell (p:=⟨g,2,none⟩) hg v2).setCell (p:=⟨g,3,none⟩) hg v3)⟩
theorem Xo2 (Aq:Option Addr)(cq:Nat)(Ac:Option Addr)(cc:Nat)(B:Option Addr)(cb:Nat)(H:Option Addr)(ch:Nat)(t:Tbl)(base:Nat)(w:World)(hb:w.ownsRow base 95 4 (.slice B t.b.length cb) t.b.length (t.b.flatMap bkE.f))(hh:w.ownsRow base 99 5 (.slice H t.h.length ch) t.h.length (t.h.flatMap hdE.f))(hbs:base≤w.heap.size)(h1:t.b.length≤1000000)(h2:t.h.length≤1000000) :
  Calls Tryz.prog 112 #[.agg (tbA Aq cq Ac cc B cb H ch t)] w fun e w' => e = .returned (.agg (tbA Aq cq Ac cc B cb H ch t)) ∧ ∃(L:List Bkg) (M:List Hld),L.Perm t.b∧(L.Pairwise fun a b=>ltOf bkC b a=false)∧M.Perm t.h∧(M.Pairwise fun a b=>ltOf hdC b a=false)∧w'.ownsRow base 95 4 (.slice B t.b.length cb) L.length (L.flatMap bkE.f)∧w'.ownsRow base 99 5 (.slice H t.h.length ch) M.length (M.flatMap hdE.f)∧Below base w w':=by
 have HB:=Lib.hid hb;have HH:=Lib.hid hh;obtain ⟨_,_,rfl,rfl,-,HB0,HK0,HK1⟩:=box2 w 29 (tbA Aq cq Ac cc B cb H ch t) 29 #[.slice none 0 0,.slice none 0 0,.slice none 0 0,.slice none 0 0];have HBS:Hid (base≤w.heap.size):=hbs;clear hb hh hbs;have a0:=HK0.out.c4;have HB1:=Lib.hid ((HB.out.alloc (.cells (tbA Aq cq Ac cc B cb H ch t) 29)).alloc (.cells #[.slice none 0 0,.slice none 0 0,.slice none 0 0,.slice none 0 0] 29));have HH1:=Lib.hid ((HH.out.alloc (.cells (tbA Aq cq Ac cc B cb H ch t) 29)).alloc (.cells #[.slice none 0 0,.slice none 0 0,.slice none 0 0,.slice none 0 0] 29));clear HB HH;go_enter Tryz.func112,Tryz.ntmps112;go_wp2_with fail;clear a0;generalize ((w.alloc (.cells (tbA Aq cq Ac cc B cb H ch t) 29)).alloc (.cells #[.slice none 0 0,.slice none 0 0,.slice none 0 0,.slice none 0 0] 29))=W at HB0 HK0 HK1 HB1 HH1 ⊢;generalize hn0:w.heap.size=n0 at HB0 HK0 HK1 HBS ⊢;refine (Xkr base _ t.b W HB1.out h1).mono ?_;rintro e w1 ⟨rfl,L,hp,hs,hr,hg⟩;have hlt:=fun r e=>(HB1.out.lt r e).1;have HM0:=Lib.hid (HK0.out.grown hg (Xa1 HK0.out (by decide) HB1.out))
 have HM1:=Lib.hid (HK1.out.grown hg (Xa1 HK1.out (by decide) HB1.out))
 have HC1:Hid (Below base w w1):=(HB0.out.mono HBS.out).grown hg (by have:=HK1.out.lt; have:=HBS.out; omega) hlt
 have HR1:=Lib.hid hr;have HH2:=Lib.hid (Xbz HB1.out HH1.out (by decide) hg)
 have HP1:=Lib.hid hp;have HS1:=Lib.hid hs;have HSZ:Hid (base≤w1.heap.size):=by have:=hg.size; have:=HK1.out.lt; have:=HBS.out; show _≤_; omega
 clear hp hs hr hg hlt HB1 HH1 HK0 HK1 HB0;have a0:=HM0.out.c4;go_wp2_with fail;clear a0;refine (Xkp base _ t.h w1 HH2.out h2).mono ?_;rintro e w2 ⟨rfl,M,hp,hs,hr,hg⟩;have hlt:=fun r e=>(HH2.out.lt r e).1;have HN0:=Lib.hid (HM0.out.grown hg (Xa1 HM0.out (by decide) HH2.out))
 have HN1:=Lib.hid (HM1.out.grown hg (Xa1 HM1.out (by decide) HH2.out))
 have HC2:Hid (Below base w w2):=HC1.out.grown hg HSZ.out hlt;have HR2:=Lib.hid hr;have HB2:=Lib.hid (Xbz HH2.out HR1.out (by decide) hg)
 have HP2:=Lib.hid hp;have HS2:=Lib.hid hs;clear hp hs hr hg hlt HH2 HR1 HM0 HM1 HC1;have a0:=HN0.out.c4;have r0:=HN1.out.c4;have f0:=HN1.out.f4;go_wp2;obtain ⟨hq,hbe⟩:=Xmb HN1.out HC2.out (by have:=HBS.out; omega) (.slice Aq t.p.q.length cq) (.slice Ac t.p.c.length cc) (.slice B t.b.length cb) (.slice H t.h.length ch)
 have hne:∀ {r:Nat},(Value.slice B t.b.length cb).ownBlock=some r→r ≠ n0+1:=fun {r} e e2=>Xa1 HN1.out (by decide) HB2.out (by rw[←e2]; exact e.symm)
 have hne2:∀ {r:Nat},(Value.slice H t.h.length ch).ownBlock=some r→r ≠ n0+1:=fun {r} e e2=>Xa1 HN1.out (by decide) HR2.out (by rw[←e2]; exact e.symm)
 have hrb:=HB2.out;have hrh:=HR2.out;have hrb:=hrb.kept (Xa0 _ (n0+1) 0 (.slice Aq t.p.q.length cq)) (.inr (fun e=>hne e rfl));have hrh:=hrh.kept (Xa0 _ (n0+1) 0 (.slice Aq t.p.q.length cq)) (.inr (fun e=>hne2 e rfl));have hrb:=hrb.kept (Xa0 _ (n0+1) 1 (.slice Ac t.p.c.length cc)) (.inr (fun e=>hne e rfl));have hrh:=hrh.kept (Xa0 _ (n0+1) 1 (.slice Ac t.p.c.length cc)) (.inr (fun e=>hne2 e rfl));have hrb:=hrb.kept (Xa0 _ (n0+1) 2 (.slice B t.b.length cb)) (.inr (fun e=>hne e rfl));have hrh:=hrh.kept (Xa0 _ (n0+1) 2 (.slice B t.b.length cb)) (.inr (fun e=>hne2 e rfl));have hrb:=hrb.kept (Xa0 _ (n0+1) 3 (.slice H t.h.length ch)) (.inr (fun e=>hne e rfl));have hrh:=hrh.kept (Xa0 _ (n0+1) 3 (.slice H t.h.length ch)) (.inr (fun e=>hne2 e rfl));generalize ((((w2.setCell ⟨n0+1,0,none⟩ (.slice Aq t.p.q.length cq)).setCell ⟨n0+1,1,none⟩ (.slice Ac t.p.c.length cc)).setCell ⟨n0+1,2,none⟩ (.slice B t.b.length cb)).setCell ⟨n0+1,3,none⟩ (.slice H t.h.length ch))=WF at hq hbe hrb hrh ⊢;have p0:=hq.c4;refine bodyPost_ret (v:=.agg (tbA Aq cq Ac cc B cb H ch t)) (by simp[results,Tryz.results112,go_sem,p0]) rfl ⟨rfl,L,M,HP1.out,HS1.out,HP2.out,HS2.out,hrb,hrh,hbe⟩
end Go.Proofs.YtebkgbmijocdjaaGreat.Tp
