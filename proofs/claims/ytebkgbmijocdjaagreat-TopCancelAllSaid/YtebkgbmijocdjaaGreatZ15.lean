/- A part of the proof for the ledger. No condition beyond those that each theorem states. -/
import Derived.OrdersIn
import Derived.TacticsIn
import Derived.Test.YtebkgbmijocdjaaGreatZ14
set_option maxHeartbeats 32000000
set_option maxRecDepth 100000
set_option linter.unusedVariables false
set_option linter.unusedSimpArgs false
namespace Go.Proofs.YtebkgbmijocdjaaGreat.Tp
open Go Go.RowKit
section
variable {l n:Nat} {P:Program} {ops:Array Oper} {Q:Exit→Act→World→Prop} {md:Region.Mode}
theorem Xo4 {row:String}{args:Array Value}{w:World}{R:Value→World→Prop}(h:Rows P row args w R):RowsIn (Fence.wide.inRound l) n P row args w R:=fun c cs _=>by
 obtain ⟨v,w',r,s⟩:=h c cs;exact ⟨v,w',r,stepsIn_wide.2 s⟩
theorem Xmx {f:FuncId}{args:Array Value}{w:World}{R:Ending→World→Prop}(h:Calls P f args w R):CallsIn (Fence.wide.inRound l) n P f args w R:=CallsIn.inRound l (callsIn_wide.2 h)
theorem Xoc {o:Oper}{a:Act}{w:World}{K:Act→World→Prop}(hd:∀c,o.op ≠ .defer c)(h:o.wp P a w K Q):o.wpIn (Fence.wide.inRound l) n P a w K Q:=by
 unfold Oper.wp at h;refine ⟨fun _ _=>trivial,?_⟩;rw[Oper.semAt_eq _ _ _ hd];generalize (execOp a.eval o).run P w=r at h;cases r with
 | ok x w' =>
   cases x with
   | value v=>exact h
   | skip=>exact h
   | defer d=>exact h
   | enter f args=>exact ⟨fun e=>(nomatch e),Xmx h⟩
   | row r args=>exact ⟨fun e=>(nomatch e),Xo4 h⟩
   | _=>exact h.elim
 | halt x w' =>
   cases x with
   | panic v=>exact h
   | _=>exact h.elim
theorem Xgv (hd:∀(i:Nat)(o:Oper),ops[i]? = some o → ∀c,o.op ≠ Op.defer c)(hlo:¬ LetsOut Q):∀(fuel:Nat)(listed:Array Bool)(a:Act)(w:World),wpAny P md ops Q fuel listed a w→wpAnyIn (Fence.wide.inRound l) n P md ops Q fuel listed a w
 | 0,_,_,_,h=>h
 | fuel+1,listed,a,w,h=>by
   refine ⟨h.1,fun i hi=>?_⟩;have h2:=wpOp_mono (fun a' w' h' => Xgv hd hlo fuel _ a' w' h') (h.2 i hi);unfold wpOp at h2;unfold wpOpIn;cases ho:ops[i]? with
   | none=>rw[ho] at h2; exact h2
   | some o =>
     rw[ho] at h2;simp only at h2 ⊢
     split
     ·rename_i hw
      rw[if_pos hw] at h2;rcases h2 with h2 | h2
      ·exact Xoc (hd i o ho) h2
      ·exact absurd h2.2 hlo
     ·rename_i hw
      rw[if_neg hw] at h2;exact ⟨fun _ _=>trivial,h2⟩
def Xmf (ops:Array Oper):Bool:=ops.all fun o=>match o.op with | .defer _=>false | _=>true
theorem Xl9 (h:Xmf ops=true)(i:Nat)(o:Oper)(ho:ops[i]? = some o)(c:Call):o.op ≠ .defer c:=fun e=>by
 have:=(Array.all_eq_true'.1 h) o (Array.mem_of_getElem? ho);rw[e] at this;cases this
theorem Xl {S:World→Prop}{id:Nat}{a:Act}{w:World}(hm:P.follows .mixedOrders=true)(hd:Xmf ops=true)(hlo:¬ LetsOut Q)(hS:S w.drew)
  (h:S w.drew→wpAnyH P .any ops Q S ops.size (Array.replicate ops.size false) a w.drew):(Code.region id ops true).wpIn (Fence.wide.inRound l) n P Q a w :=
 wpIn_region_any hm (Xgv (fun i o ho c=>Xl9 hd i o ho c) hlo _ _ _ _ (wpAny_of_held _ _ _ _ (h hS)))
def NP (Q:Exit→Act→World→Prop)(e:Exit)(a:Act)(w:World):Prop:=e = .normal∧Q e a w
theorem Xcs {S:World→Prop}{id:Nat}{a:Act}{w:World}(hm:P.follows .mixedOrders=true)(hd:Xmf ops=true)(hS:S w.drew)
  (h:S w.drew→wpAnyH P .any ops (NP Q) S ops.size (Array.replicate ops.size false) a w.drew):(Code.region id ops true).wpIn (Fence.wide.inRound l) n P Q a w :=
 wpIn_mono (Xl hm hd (fun ⟨_,_,e⟩=>nomatch e.1) hS h) fun _ _ _ h=>h.2
theorem takeL {S:World→Prop}{L:List Oper}{i:Nat}{oi:Oper}{v:Value}{fuel:Nat}{listed:Array Bool}{a:Act}{w:World}(hi:L[i]? = some oi)
  (hs:Region.noSelect L.toArray=true) (hf:Region.free md L.toArray listed i=true) (hr:(Region.ready md L.toArray listed).contains i=true)
  (hQ:∀c a w,Q (.panic c) (a.put oi.dst v) w→Q (.panic c) a w) (hy:YieldsIf P L.toArray S oi v a) (hS:S w)
  (h:wpAnyH P md L.toArray Q S fuel (listed.setIfInBounds i true) (a.put oi.dst v) w):wpAnyH P md L.toArray Q S (fuel+1) listed a w :=
 wpAnyH_take (by rw[List.getElem?_toArray]; exact hi) hs hf hr hQ hy hS h
theorem Xat {S:World→Prop}{L:List Oper}{i:Nat}{o:Oper}{fuel:Nat}{listed:Array Bool}{a:Act}{w:World}(hi:L[i]? = some o)(hr:Region.ready md L.toArray listed = [i])
  (hw:Region.wanted o (yielded L.toArray a.tmps)=true) (h:∀K:Act→World→Prop,(∀a' w',S w' → (S w' → wpAnyH P md L.toArray Q S fuel (listed.setIfInBounds i true) a' w')→K a' w')→o.wp P a w K Q):wpAnyH P md L.toArray Q S (fuel+1) listed a w:=by
 refine wpAnyH_all hr (by simp) fun j hj=>?_
 obtain rfl:j=i:=by simpa using hj
 unfold wpOp;rw[List.getElem?_toArray,hi];simp only[hw,if_true];exact .inl (h _ fun a' w' hS hk=>⟨hS,hk hS⟩)
theorem Xo5 {S:World→Prop}{L:List Oper}{i j:Nat}{o o2:Oper}{fuel:Nat}{listed:Array Bool}{a:Act}{w:World}(hi:L[i]? = some o)(hj:L[j]? = some o2)(hr:Region.ready md L.toArray listed = [i,j])
  (hw:Region.wanted o (yielded L.toArray a.tmps)=true) (hw2:Region.wanted o2 (yielded L.toArray a.tmps)=true)
  (h:∀K:Act→World→Prop,(∀a' w',S w' → (S w' → wpAnyH P md L.toArray Q S fuel (listed.setIfInBounds i true) a' w')→K a' w')→o.wp P a w K Q)
  (h2:∀K:Act→World→Prop,(∀a' w',S w' → (S w' → wpAnyH P md L.toArray Q S fuel (listed.setIfInBounds j true) a' w')→K a' w')→o2.wp P a w K Q):wpAnyH P md L.toArray Q S (fuel+1) listed a w:=by
 refine wpAnyH_all hr (by simp) fun k hk=>?_
 rcases List.mem_cons.1 hk with rfl | hk
 ·unfold wpOp;rw[List.getElem?_toArray,hi];simp only[hw,if_true];exact .inl (h _ fun a' w' hS hk=>⟨hS,hk hS⟩)
 ·obtain rfl:k=j:=by simpa using hk
  unfold wpOp;rw[List.getElem?_toArray,hj];simp only[hw2,if_true];exact .inl (h2 _ fun a' w' hS hk=>⟨hS,hk hS⟩)
theorem Xi6 {S:World→Prop}{L:List Oper}{fuel:Nat}{listed:Array Bool}{a:Act}{w:World}(hr:Region.ready md L.toArray listed = [])(h:Q .normal a w):wpAnyH P md L.toArray (NP Q) S fuel listed a w:=wpAnyH_done hr ⟨rfl,h⟩ fuel
end
section
variable {P : Program} {Q : Exit → Act → World → Prop} {md : Region.Mode} {S : World → Prop} {St : List Nat}
theorem tkL {L : List Oper} (i : Nat) (v : Value) {oi : Oper} {fuel : Nat} {listed : Array Bool} {a a' : Act} {w : World}
    (h : wpAnyH P md L.toArray Q S fuel (listed.setIfInBounds i true) a' w) (hi : L[i]? = some oi := by rfl)
    (hs : Region.noSelect L.toArray = true := by kernel_rfl) (hf : Region.free md L.toArray listed i = true := by kernel_rfl) (hr : (Region.ready md L.toArray listed).contains i = true := by kernel_rfl)
    (hQ : ∀ c a w, Q (.panic c) (a.put oi.dst v) w → Q (.panic c) a w := by intro _ _ _ h; first | (cases h.1; done) | exact h) (hy : YieldsIf P L.toArray S oi v a := by exact Or.inl ⟨by rfl, by intro w hSw; (try dsimp only at hSw); go_simp; try with_reducible rfl⟩) (hS : S w := by assumption)
    (ha : a.put oi.dst v = a' := by (try simp only [PU]); exact rfl) : wpAnyH P md L.toArray Q S (fuel + 1) listed a w :=
  takeL hi hs hf hr hQ hy hS (ha ▸ h)
end
end Go.Proofs.YtebkgbmijocdjaaGreat.Tp
namespace Go.Proofs.YtebkgbmijocdjaaGreat.Tp
open Go Go.RowKit
def BelD (w w':World):Prop:=Below w.heap.size w w' ∧ w.drawn≤w'.drawn
theorem BelD.refl (w:World):BelD w w:=⟨Below.refl _ _,Nat.le_refl _⟩
theorem BelD.alloc {w w':World}(h:BelD w w')(o:Obj):BelD w (w'.alloc o):=⟨h.1.alloc h.1.size _,h.2⟩
theorem BelD.drew {w w':World}(h:BelD w w'):BelD w w'.drew:=⟨h.1.drew,Nat.le_trans h.2 (Nat.le_succ _)⟩
theorem BelD.trans {a b c:World}(h:BelD a b)(k:BelD b c):BelD a c:=⟨Xa h.1 k.1,Nat.le_trans h.2 k.2⟩
theorem Xce {w w':World}(h:w=w'):BelD w w':=h ▸ BelD.refl w
theorem Xb7 {S:World→Prop}{W w':World}(HD:Hid (∀w',BelD W w' → S w'))(h:BelD W w'):S w' ∧ Hid (BelD W w'):=⟨HD.out _ h,h⟩
theorem Xek {S:World→Prop}{W w' w4:World}(HD:Hid (∀w',BelD W w' → S w'))(h:Hid (BelD W w'))(hb:BelD w' w4):S w4∧Hid (BelD W w4):=Xb7 HD (h.out.trans hb)
theorem Xnk {W w':World}{o:Obj}(h:Hid (BelD W w')):BelD W (w'.alloc o):=h.out.alloc o
theorem BelD.grows {w w':World}(h:BelD w w'):∃q os,w' = Go.Sort.grow (w.drewN q) os:=by
 refine ⟨w'.drawn - w.drawn,w'.heap.extract w.heap.size w'.heap.size,?_⟩;obtain ⟨⟨h1,h2,h3,h4,h5⟩,h6⟩:=h;obtain ⟨hp,tp,dr,os,ou⟩:=w;obtain ⟨hp',tp',dr',os',ou'⟩:=w';simp only at h1 h2 h3 h4 h5 h6;subst h1 h2 h3;have e:hp' = hp ++ hp'.extract hp.size hp'.size:=by
  refine Array.ext (by simp; omega) fun i hi hi2=>?_
  rw[Array.getElem_append]
  split
  ·rename_i hlt
   have:=h5 i hlt;rw[Array.getElem?_eq_getElem hi,Array.getElem?_eq_getElem hlt] at this;exact Option.some.inj this
  ·rename_i hge
   rw[Array.getElem_extract]
   congr 1
   omega
 have d:dr' = dr+(dr' - dr):=by omega
 unfold Go.Sort.grow World.drewN;simp only[World.mk.injEq];exact ⟨e,trivial,d,trivial,trivial⟩
theorem Xmj (a b:Lab)(w:World):Calls Tryz.prog 66 #[.agg #[.int .i64 a.node,.int .i64 a.frm,.int .i64 a.til,.int .i64 a.time],.agg #[.int .i64 b.node,.int .i64 b.frm,.int .i64 b.til,.int .i64 b.time]] w fun e w' => e = .returned (.int .i64 (lbC a b))∧BelD w w':=by
 have HB0:Hid (BelD w ((w.alloc (.cells (lbA a) 81)).alloc (.cells (lbA b) 81))):=((BelD.refl _).alloc _).alloc _;have HK:=Lib.hid ((Bk.new w 81 (lbA a)).alloc (.cells (lbA b) 81));have HL:Hid (Bk ((w.alloc (.cells (lbA a) 81)).alloc (.cells (lbA b) 81)) (w.heap.size+1) 81 (lbA b)):=by
  have h:=Bk.new (w.alloc (.cells (lbA a) 81)) 81 (lbA b)
  rwa [World.size_alloc] at h
 go_enter Tryz.func66,Tryz.ntmps66;go_wp2_with fail;generalize (w.alloc (.cells (lbA a) 81)).alloc (.cells (lbA b) 81)=W at HB0 HK HL ⊢;generalize w.heap.size=g at HK HL ⊢;have HD:Hid (∀w',BelD W w' → (w'.cell? ⟨g,0,none⟩=some (.int .i64 a.node)∧w'.cell? ⟨g,1,none⟩=some (.int .i64 a.frm)∧w'.cell? ⟨g,2,none⟩=some (.int .i64 a.til)∧w'.cell? ⟨g,3,none⟩=some (.int .i64 a.time))∧w'.cell? ⟨g+1,0,none⟩=some (.int .i64 b.node)∧w'.cell? ⟨g+1,1,none⟩=some (.int .i64 b.frm)∧w'.cell? ⟨g+1,2,none⟩=some (.int .i64 b.til)∧w'.cell? ⟨g+1,3,none⟩=some (.int .i64 b.time)):=fun w' hb=>by
  have h1:=HK.out.below hb.1 HK.out.lt;have h2:=HL.out.below hb.1 HL.out.lt;exact ⟨⟨h1.cell 0,h1.cell 1,h1.cell 2,h1.cell 3⟩,h2.cell 0,h2.cell 1,h2.cell 2,h2.cell 3⟩
 go_region_held3 (fun w' => ((w'.cell? ⟨g,0,none⟩=some (.int .i64 a.node)∧w'.cell? ⟨g,1,none⟩=some (.int .i64 a.frm)∧w'.cell? ⟨g,2,none⟩=some (.int .i64 a.til)∧w'.cell? ⟨g,3,none⟩=some (.int .i64 a.time))∧w'.cell? ⟨g+1,0,none⟩=some (.int .i64 b.node)∧w'.cell? ⟨g+1,1,none⟩=some (.int .i64 b.frm)∧w'.cell? ⟨g+1,2,none⟩=some (.int .i64 b.til)∧w'.cell? ⟨g+1,3,none⟩=some (.int .i64 b.time))∧Hid (BelD W w')) (((try go_split_ands); first | exact Xb7 HD (BelD.refl _).drew | exact Xek HD (by assumption) hb4 | exact Xb7 HD (Xnk (by assumption))))
  ((first
    | (go_at_call 84
       refine (Xbq _ _ _).mono ?_;rintro e w4 ⟨rfl,hw4⟩;have hb4:=Xce hw4;clear hw4)
    | (go_at_call 83
       refine (Xh4 _ _ [cmpI a.time b.time,cmpI a.node b.node,cmpI a.frm b.frm] _ rfl (by simp) ?_).mono ?_
       ·exact Xdn _ [cmpI a.time b.time,cmpI a.node b.node,cmpI a.frm b.frm] _
       rintro e w4 ⟨rfl,hw4⟩;have hb4:=Xce hw4;clear hw4)))
 have HBF:Hid (BelD W w4):=by (try go_split_ands); assumption
 go_wp2;go_ret;exact ⟨rfl,HB0.out.trans HBF.out⟩
theorem Xsf (a b:Bkg)(w:World):Calls Tryz.prog 86 #[.agg #[.int .i64 a.ct,.int .i64 a.beg,.int .i64 a.fin,.int .i64 a.tick],.agg #[.int .i64 b.ct,.int .i64 b.beg,.int .i64 b.fin,.int .i64 b.tick]] w fun e w' => e = .returned (.int .i64 (bkC a b))∧BelD w w':=by
 have HB0:Hid (BelD w ((w.alloc (.cells (bkA a) 95)).alloc (.cells (bkA b) 95))):=((BelD.refl _).alloc _).alloc _;have HK:=Lib.hid ((Bk.new w 95 (bkA a)).alloc (.cells (bkA b) 95));have HL:Hid (Bk ((w.alloc (.cells (bkA a) 95)).alloc (.cells (bkA b) 95)) (w.heap.size+1) 95 (bkA b)):=by
  have h:=Bk.new (w.alloc (.cells (bkA a) 95)) 95 (bkA b)
  rwa [World.size_alloc] at h
 go_enter Tryz.func86,Tryz.ntmps86;go_wp2_with fail;generalize (w.alloc (.cells (bkA a) 95)).alloc (.cells (bkA b) 95)=W at HB0 HK HL ⊢;generalize w.heap.size=g at HK HL ⊢;have HD:Hid (∀w',BelD W w' → (w'.cell? ⟨g,0,none⟩=some (.int .i64 a.ct)∧w'.cell? ⟨g,1,none⟩=some (.int .i64 a.beg))∧w'.cell? ⟨g+1,0,none⟩=some (.int .i64 b.ct)∧w'.cell? ⟨g+1,1,none⟩=some (.int .i64 b.beg)):=fun w' hb=>by
  have h1:=HK.out.below hb.1 HK.out.lt;have h2:=HL.out.below hb.1 HL.out.lt;exact ⟨⟨h1.cell 0,h1.cell 1⟩,h2.cell 0,h2.cell 1⟩
 go_region_held3 (fun w' => ((w'.cell? ⟨g,0,none⟩=some (.int .i64 a.ct)∧w'.cell? ⟨g,1,none⟩=some (.int .i64 a.beg))∧w'.cell? ⟨g+1,0,none⟩=some (.int .i64 b.ct)∧w'.cell? ⟨g+1,1,none⟩=some (.int .i64 b.beg))∧Hid (BelD W w')) (((try go_split_ands); first | exact Xb7 HD (BelD.refl _).drew | exact Xek HD (by assumption) hb4 | exact Xb7 HD (Xnk (by assumption))))
  ((first
    | (go_at_call 84
       refine (Xbq _ _ _).mono ?_;rintro e w4 ⟨rfl,hw4⟩;have hb4:=Xce hw4;clear hw4)
    | (go_at_call 83
       refine (Xh4 _ _ [cmpI a.ct b.ct,cmpI a.beg b.beg] _ rfl (by simp) ?_).mono ?_
       ·exact Xdn _ [cmpI a.ct b.ct,cmpI a.beg b.beg] _
       rintro e w4 ⟨rfl,hw4⟩;have hb4:=Xce hw4;clear hw4)))
 have HBF:Hid (BelD W w4):=by (try go_split_ands); assumption
 go_wp2;go_ret;exact ⟨rfl,HB0.out.trans HBF.out⟩
end Go.Proofs.YtebkgbmijocdjaaGreat.Tp
namespace Go.Proofs.YtebkgbmijocdjaaGreat.Tp
open Go Go.RowKit Go.Lib Go.Proofs
theorem Xgs {α:Type} [Inhabited α](E:Enc α)(hk:0<E.k)(l:List α):Sort.flatK E.f E.k l.toArray=(l.flatMap E.f).toArray:=by
 refine Array.ext (by rw[Sort.size_flatK,List.size_toArray,List.size_toArray,Xan]) fun i h1 h2=>?_
 have hi:i<l.length * E.k:=by simpa using h1
 have hq:i / E.k<l.length:=(Nat.div_lt_iff_lt_mul hk).2 hi;have hm:i % E.k<(E.f l[i / E.k]).length:=by rw[E.len]; exact Nat.mod_lt _ hk
 have hf:=flat_get (E:=E) l (i / E.k) l[i / E.k] (List.getElem?_eq_getElem hq) (i % E.k) _ (List.getElem?_eq_getElem hm);rw[show i / E.k * E.k+i % E.k=i by rw[Nat.mul_comm]; exact Nat.div_add_mod i E.k] at hf
 have hg:=Sort.get_flatK E.f E.k l.toArray i (by simpa using hi)
 rw[getElem!_pos _ i h1] at hg;rw[hg,List.getElem_toArray];obtain ⟨h3,h4⟩:=List.getElem?_eq_some_iff.1 hf;rw[h4];have e:l.toArray[i / E.k]! = l[i / E.k]:=by rw[getElem!_pos _ _ (by simpa using hq)]; simp
 rw[e,getElem!_pos (E.f l[i / E.k]) (i % E.k) hm]
theorem Xfd {β:Type} [Inhabited β](f:β → Value)(w:World)(g off n:Nat)(d:Array β)(os:Array Obj){t:TypeId}{cur:Array Value}(h:w.heap[g]? = some (.cells cur t (0,0))) :
  (Sort.grow (Sort.putRow f (Sort.ahead w n) g off d) os).heap[g]? = some (.cells (Sort.putCells f off d cur) t (0,0))∧(∀k,k<w.heap.size→k ≠ g→(Sort.grow (Sort.putRow f (Sort.ahead w n) g off d) os).heap[k]? = w.heap[k]?)∧w.heap.size≤(Sort.grow (Sort.putRow f (Sort.ahead w n) g off d) os).heap.size:=by
 have hg:g<w.heap.size:=(Array.getElem?_eq_some_iff.1 h).1;have hs:(Sort.putRow f (Sort.ahead w n) g off d).heap.size=w.heap.size:=by simp[Sort.putRow,Sort.mapBlock,Sort.ahead]
 refine ⟨?_,fun k hk hne=>?_,?_⟩
 ·show ((Sort.putRow f (Sort.ahead w n) g off d).heap ++ os)[g]? = _;rw[Array.getElem?_append_left (by omega)]
  simp[Sort.putRow,Sort.mapBlock,Sort.ahead,Array.getElem?_modify,h,Sort.onCells]
 ·show ((Sort.putRow f (Sort.ahead w n) g off d).heap ++ os)[k]? = _;rw[Array.getElem?_append_left (by omega)]
  simp[Sort.putRow,Sort.mapBlock,Sort.ahead,Array.getElem?_modify];exact fun e=>absurd e.symm hne
 ·show _≤((Sort.putRow f (Sort.ahead w n) g off d).heap ++ os).size;simp[Sort.putRow,Sort.mapBlock,Sort.ahead]
def Xlz {α:Type}(E:Enc α)(t:TypeId)(base:Nat)(v:Value)(l:List α)(w:World)(e:Ending)(w':World):Prop :=
 e = .returned (.tuple #[]) ∧ ∃l':List α,l'.Perm l∧w'.ownsRow base t E.k v l'.length (l'.flatMap E.f)∧w.grownBy w' v.ownBlock
theorem Xpk {P:Program} {α:Type} [Inhabited α](E:Enc α)(hk:0<E.k)(t:TypeId)(fs g:Nat)(base:Nat)(v:Value)(l:List α)(w:World)(hR:w.ownsRow base t E.k v l.length (l.flatMap E.f))(hne:l ≠ [])
  (hS:∀(blk cap:Nat),Sort.HoldsK E.f E.k w blk 0 l.toArray→blk<w.heap.size→Calls P fs #[.slice (some ⟨blk,0,none⟩) l.toArray.size cap,.func (.func g) #[] #[]] w fun e w' => e = .returned (.tuple #[]) ∧ ∃(d':Array α) (n:Nat) (os:Array Obj),Sort.PermIn 0 l.toArray.size l.toArray d' ∧ w' = sortWorldK E.f E.k w blk 0 n d' os) :
  Calls P fs #[v,.func (.func g) #[] #[]] w (Xlz E t base v l w):=by
 obtain ⟨hxl,h⟩:=hR;rcases h with ⟨rfl,h0⟩ | ⟨b,cap,cur,rfl,hbg,hg,hnc,hcm,hcs,htk⟩
 ·exact absurd (List.eq_nil_of_length_eq_zero h0) hne
 ·have hF:=Xgs E hk l;have hH:Sort.HoldsK E.f E.k w b 0 l.toArray:=by
   unfold Sort.HoldsK;rw[hF];intro j hj;have hj':j<(l.flatMap E.f).length:=by simpa using hj
   have hb:Bk w b t cur:=hg;rw[Nat.zero_add];refine ⟨?_,hb.free _⟩;have h1:(cur.toList.take (l.length * E.k))[j]? = (l.flatMap E.f)[j]? := by rw[htk]
   rw[Xan] at hj';rw[List.getElem?_take,if_pos hj',Array.getElem?_toList] at h1;have hj2:j<(l.flatMap E.f).length:=by rw[Xan]; exact hj'
   rw[hb.cell,h1,List.getElem?_eq_getElem hj2,getElem!_pos (l.flatMap E.f).toArray j hj,List.getElem_toArray]
   rfl
  have hc:=hS b cap hH (Array.getElem?_eq_some_iff.1 hg).1;simp only[List.size_toArray] at hc;refine hc.mono ?_;rintro e w' ⟨rfl,d',n,os,hp,rfl⟩;have hsz:d'.size=l.length:=by simpa using hp.1
  have hpl:d'.toList.Perm l:=by
   have h3:=hp.2.2;have h4:(d'.extract 0 l.length).toList=d'.toList:=by rw[←hsz,Array.extract_size]
   rw[h4] at h3;simpa using h3
  obtain ⟨h1,h2,h3⟩:=Xfd id w b 0 n (Sort.flatK E.f E.k d') os hg;have hF':Sort.flatK E.f E.k d' = (d'.toList.flatMap E.f).toArray:=by
   have:=Xgs E hk d'.toList
   rwa [Array.toArray_toList] at this
  refine ⟨rfl,d'.toList,hpl,⟨Xan _,.inr ⟨b,cap,_,by rw[hpl.length_eq],hbg,h1,by rw[hpl.length_eq]; exact hnc,hcm,by simp[Sort.putCells,hcs],?_⟩⟩,⟨rfl,rfl,rfl,h3,fun k hk2 hne2=>h2 k hk2 (fun e=>hne2 (by rw[e]; rfl))⟩⟩
  rw[hF'];have hcl:l.length * E.k≤cur.size:=by
   have:=congrArg List.length htk;rw[Xan,List.length_take] at this;have h5:cur.toList.length=cur.size:=Array.length_toList;omega
  apply List.ext_getElem?;intro j;rw[List.getElem?_take,hpl.length_eq]
  by_cases hj:j<l.length * E.k
  ·rw[if_pos hj,Array.getElem?_toList];have hj2:j<(d'.toList.flatMap E.f).length:=by rw[Xan,hpl.length_eq]; exact hj
   have hjc:j<cur.size:=by omega
   rw[List.getElem?_eq_getElem hj2];simp only[Sort.putCells,Array.getElem?_mapIdx,Array.getElem?_eq_getElem hjc,Option.map_some,Nat.zero_le,true_and,Nat.zero_add,List.size_toArray,hj2,if_true,id_eq,Nat.sub_zero];rw[getElem!_pos (d'.toList.flatMap E.f).toArray j (by simpa using hj2)]
   simp
  ·rw[if_neg hj,List.getElem?_eq_none (by rw[Xan,hpl.length_eq]; omega)]
theorem Xd7 {a b:Int}:cmpI a b<0↔a<b:=by unfold cmpI; split <;> (try split) <;> omega
theorem Xmw {a b:Int}:cmpI a b=0↔a=b:=by unfold cmpI; split <;> (try split) <;> omega
def lx (l m:List Int):Int:=orL (List.zipWith cmpI l m)
theorem Xey (a b:Int)(l m:List Int):lx (a :: l) (b :: m)=if a=b then lx l m else cmpI a b:=by
 unfold lx;rw[List.zipWith_cons_cons,orL]
 by_cases h:a=b
 ·rw[if_pos h,if_pos (Xmw.2 h)]
 ·rw[if_neg h,if_neg (fun e=>h (Xmw.1 e))]
theorem Xsu:∀l:List Int,lx l l=0
 | [] => rfl
 | a :: l=>by rw[Xey,if_pos rfl]; exact Xsu l
theorem lx_tr:∀ {l m n:List Int},l.length=m.length→m.length=n.length→lx l m<0→lx m n<0→lx l n<0
 | [], [], [],_,_,h,_=>by simp[lx,orL] at h
 | a :: l,b :: m,c :: n,h1,h2,h3,h4=>by
   rw[Xey] at h3 h4 ⊢
   by_cases e1:a=b
   ·subst e1;rw[if_pos rfl] at h3
    by_cases e2:a=c
    ·rw[if_pos e2] at h4 ⊢;exact lx_tr (by simpa using h1) (by simpa using h2) h3 h4
    ·rw[if_neg e2] at h4 ⊢; exact h4
   ·rw[if_neg e1] at h3;have h3':=Xd7.1 h3
    by_cases e2:b=c
    ·subst e2;rw[if_neg e1]; exact h3
    ·rw[if_neg e2] at h4;have h4':=Xd7.1 h4;rw[if_neg (by omega)]
     exact Xd7.2 (by omega)
theorem lx_nt:∀ {l m n:List Int},l.length=m.length→m.length=n.length → ¬ lx l m<0 → ¬ lx m n<0 → ¬ lx l n<0
 | [], [], [],_,_,h,_=>h
 | a :: l,b :: m,c :: n,h1,h2,h3,h4=>by
   rw[Xey] at h3 h4 ⊢
   by_cases e1:a=b
   ·subst e1;rw[if_pos rfl] at h3
    by_cases e2:a=c
    ·rw[if_pos e2] at h4 ⊢;exact lx_nt (by simpa using h1) (by simpa using h2) h3 h4
    ·rw[if_neg e2] at h4 ⊢; exact h4
   ·rw[if_neg e1] at h3;have h3':¬ a<b:=fun h=>h3 (Xd7.2 h)
    by_cases e2:b=c
    ·subst e2;rw[if_neg e1]; exact h3
    ·rw[if_neg e2] at h4;have h4':¬ b<c:=fun h=>h4 (Xd7.2 h);rw[if_neg (by omega)]
     exact fun h=>absurd (Xd7.1 h) (by omega)
theorem Xpc {α:Type}(k:Nat)(f:α → List Int)(hf:∀x,(f x).length=k)(cf:α → α → Int)(hc:∀x y,cf x y=lx (f x) (f y)):Sort.SWO (ltOf cf) where
 irrefl x:=by unfold ltOf; rw[hc,Xsu]; rfl
 trans x y z h1 h2:=by
  unfold ltOf at *;rw[hc] at *;simp only[decide_eq_true_eq] at *;exact lx_tr (by rw[hf,hf]) (by rw[hf,hf]) h1 h2
 ntrans x y z h1 h2:=by
  unfold ltOf at *;rw[hc] at *;simp only[decide_eq_false_iff_not] at *;exact lx_nt (by rw[hf,hf]) (by rw[hf,hf]) h1 h2
theorem Xt6:Sort.SWO (ltOf lbC):=Xpc 3 (fun x => [x.time,x.node,x.frm]) (fun _=>rfl) lbC (fun _ _=>rfl)
theorem Xt7:Sort.SWO (ltOf hdC):=Xpc 5 (fun x => [x.node,x.frm,x.til,x.tick,x.size]) (fun _=>rfl) hdC (fun _ _=>rfl)
theorem Xkn (base:Nat)(v:Value)(l:List Lab)(w:World)(hR:w.ownsRow base 81 lbE.k v l.length (l.flatMap lbE.f))(hne:l ≠ [])(hn:l.length≤1000000) :
  Calls Tryz.prog 71 #[v,.func (.func 66) #[] #[]] w (Xlz lbE 81 base v l w):=by
 letI:Inhabited Lab:=⟨⟨0,0,0,0⟩⟩
 refine Xpk lbE (by decide) _ _ _ base v l w hR hne fun blk cap hH hb=>?_
 refine (AnyQ.slices_SortFunc Tryz.sortLab lbE.k Tryz.isAgg81 Tryz.sizeOf81 lbE.f lbE.len lbE.one lbC Xt6 66 #[] blk 0 cap l.toArray w (enters_of Tryz.func66 (by kernel_rfl) rfl) ?_ hH hb (by simp; omega)).mono ?_
 ·intro m os dk _ x y;refine (Xmj x y _).mono ?_;rintro e w' ⟨rfl,h⟩;exact ⟨rfl,h.grows⟩
 ·rintro e w' ⟨rfl,d',n,os,h1,h2,h3⟩;exact ⟨rfl,d',n,os,h1,h3⟩
end Go.Proofs.YtebkgbmijocdjaaGreat.Tp
namespace Go.Proofs.YtebkgbmijocdjaaGreat.Tp
open Go Go.RowKit
attribute [local go_sem] Oper.semAt_some
theorem Xa1 {W:World}{B:Nat}{t e:TypeId}{cs:Array Value}(h:Bk W B t cs)(hte:t ≠ e){base size k:Nat}{v:Value}{xs:List Value}(hr:W.ownsRow base e size v k xs):some B ≠ v.ownBlock:=by
 rcases hr.2 with ⟨rfl,_⟩ | ⟨g,cap,cur,rfl,_,hgb,_⟩
 ·simp[Value.ownBlock]
 ·intro e';obtain rfl:B=g:=by simpa[Value.ownBlock] using e'
  have:=(show W.heap[B]? = _ from h).symm.trans hgb;simp at this;exact hte this.2
end Go.Proofs.YtebkgbmijocdjaaGreat.Tp
