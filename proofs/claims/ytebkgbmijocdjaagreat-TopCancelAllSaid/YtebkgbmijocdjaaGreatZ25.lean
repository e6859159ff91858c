/- A part of the proof for the ledger. No condition beyond those that each theorem states. -/
import Derived.Deep.AppendLies
import Derived.Test.YtebkgbmijocdjaaGreatZ24
set_option maxHeartbeats 32000000
set_option maxRecDepth 100000
set_option linter.unusedVariables false
set_option linter.unusedSimpArgs false
namespace Go.Proofs.YtebkgbmijocdjaaGreat.Tp
open Go Go.RowKit
section
variable {P:Program} {ops:Array Oper} {Q:Exit→Act→World→Prop} {md:Region.Mode} {S:World→Prop} {St:List Nat}
def stored (St:List Nat)(listed:Array Bool):Prop:=∃s ∈ St,listed.getD s false=true
def Xb9 (P:Program)(md:Region.Mode)(ops:Array Oper)(Q:Exit→Act→World→Prop)(S:World→Prop)(St:List Nat):Nat→Array Bool→Act→World→Prop
 | 0,listed,a,w=>Region.ready md ops listed = [] ∧ Q .normal a w
 | fuel+1,listed,a,w=>(Region.ready md ops listed = [] → Q .normal a w) ∧
   ∀i ∈ Region.ready md ops listed,wpOp P ops Q i (fun a' w' => (S w' ∨ stored St (listed.setIfInBounds i true))∧Xb9 P md ops Q S St fuel (listed.setIfInBounds i true) a' w') a w
theorem Xfw:∀(fuel:Nat)(listed:Array Bool)(a:Act)(w:World),Xb9 P md ops Q S St fuel listed a w→wpAny P md ops Q fuel listed a w
 | 0,_,_,_,h=>h
 | fuel+1,_,_,_,h=>⟨h.1,fun i hi=>wpOp_mono (fun a' w' h' => Xfw fuel _ a' w' h'.2) (h.2 i hi)⟩
theorem Xbu {L:Array Bool}{i s:Nat}{b d:Bool}(h:s ≠ i):(L.setIfInBounds i b).getD s d=L.getD s d:=by
 simp[Array.getD_eq_getD_getElem?,Array.getElem?_setIfInBounds_ne (Ne.symm h)]
theorem Xkb {i:Nat}{oi:Oper}{v:Value}(hi:ops[i]? = some oi)(hsel:∀(j:Nat)(o:Oper) cs b,ops[j]? = some o→o.op ≠ .select cs b)
  (hQ:∀c a w,Q (.panic c) (a.put oi.dst v) w→Q (.panic c) a w) (hiS:i ∉ St) (hb:∀s ∈ St,∀os,ops[s]? = some os → ∃e ∈ os.after,Region.binds md e=true∧e.on=i) :
  ∀(fuel:Nat) (listed:Array Bool) (a:Act) (w:World),
   (∀j oj,ops[j]? = some oj→j ≠ i→listed.getD j true=false→(∀e ∈ oj.after,Region.binds md e=true→e.on ≠ i)→oi.apart ops oj=true) →
   i ∈ Region.ready md ops listed→YieldsIf P ops S oi v a→S w→(¬ stored St listed) →
   Xb9 P md ops Q S St fuel (listed.setIfInBounds i true) (a.put oi.dst v) w→Xb9 P md ops Q S St (fuel+1) listed a w:=by
 intro fuel
 induction fuel with
 | zero =>
   intro listed a w _ hr hy hS _ H;refine ⟨fun h=>(by rw[h] at hr; cases hr),fun j hj=>?_⟩
   by_cases hji:j=i
   ·subst hji; exact hy.wpOp hi hS ⟨.inl hS,H⟩
   ·have:=ready_mono hj hji;rw[H.1] at this;cases this
 | succ fuel ih =>
   intro listed a w hfree hr hy hS hcl H;refine ⟨fun h=>(by rw[h] at hr; cases hr),fun j hj=>?_⟩
   by_cases hji:j=i
   ·subst hji; exact hy.wpOp hi hS ⟨.inl hS,H⟩
   ·have h1:=H.2 j (ready_mono hj hji);obtain ⟨hjun,oj,hoj,hall⟩:=mem_ready.1 hj;have hnot:∀e ∈ oj.after,Region.binds md e=true→e.on ≠ i:=fun e he hb heq=>by
     have h1:=hall e he hb;have h0:=(mem_ready.1 hr).1;rw[heq] at h1;rcases Nat.lt_or_ge i listed.size with h' | h'
     ·simp[h'] at h0 h1; rw[h0] at h1; cases h1
     ·simp[Array.getElem?_eq_none h'] at h1
    have hjS:j ∉ St:=fun hj' => by
     obtain ⟨e,he,h2,h3⟩:=hb j hj' oj hoj;exact hnot e he h2 h3
    have hcl2:¬ stored St (listed.setIfInBounds j true):=by
     rintro ⟨s,hs,h⟩;have hsj:s ≠ j:=fun e=>hjS (e ▸ hs);rw[Xbu hsj] at h;exact hcl ⟨s,hs,h⟩
    have h2:=wpOp_putIf hoj (hfree j oj hoj hji hjun hnot) (fun cs b=>hsel i oi cs b hi) (fun cs b=>hsel j oj cs b hoj) hQ hy h1;have hfree':∀k ok,ops[k]? = some ok→k ≠ i→(listed.setIfInBounds j true).getD k true=false →
      (∀e ∈ ok.after,Region.binds md e=true→e.on ≠ i)→oi.apart ops ok=true:=fun k ok hk hki hun hno=>by
     refine hfree k ok hk hki ?_ hno
     by_cases hjk:j=k
     ·subst hjk; exact hjun
     ·rw[Xbu (Ne.symm hjk)] at hun; exact hun
    refine wpOp_mono (fun a' w' h3=>?_) h2;have hS':S w':=by
     rcases h3.2.1 with h | ⟨s,hs,h⟩
     ·exact h
     ·refine absurd ⟨s,hs,?_⟩ hcl2;have hsj:s ≠ j:=fun e=>hjS (e ▸ hs);have hsi:s ≠ i:=fun e=>hiS (e ▸ hs);rw[Xbu hsj,Xbu hsi] at h;rw[Xbu hsj];exact h
    refine ⟨.inl hS',ih (listed.setIfInBounds j true) a' w' hfree' (ready_mono hr (Ne.symm hji)) h3.1 hS' hcl2 ?_⟩;rw[Array.setIfInBounds_comm _ _ hji];exact h3.2.2
theorem Xkj {i:Nat}{listed:Array Bool}(hiS:i ∉ St)(h:stored St (listed.setIfInBounds i true)):stored St listed:=by
 obtain ⟨s,hs,h⟩:=h;have hsi:s ≠ i:=fun e=>hiS (e ▸ hs);rw[Xbu hsi] at h;exact ⟨s,hs,h⟩
theorem Xgx {i:Nat}{listed:Array Bool}(hiS:i ∉ St)(h:stored St listed):stored St (listed.setIfInBounds i true):=by
 obtain ⟨s,hs,h⟩:=h;have hsi:s ≠ i:=fun e=>hiS (e ▸ hs);exact ⟨s,hs,by rw[Xbu hsi]; exact h⟩
theorem Xm1 {i:Nat}{oi:Oper}{v:Value}(hi:ops[i]? = some oi)(hsel:∀(j:Nat)(o:Oper) cs b,ops[j]? = some o→o.op ≠ .select cs b)
  (hQ:∀c a w,Q (.panic c) (a.put oi.dst v) w→Q (.panic c) a w) (hiS:i ∉ St) :
  ∀(fuel:Nat) (listed:Array Bool) (a:Act) (w:World),
   (∀j oj,ops[j]? = some oj→j ≠ i→listed.getD j true=false→(∀e ∈ oj.after,Region.binds md e=true→e.on ≠ i)→oi.apart ops oj=true) →
   i ∈ Region.ready md ops listed→YieldsIf P ops (fun _=>True) oi v a→(S w∨stored St listed) →
   Xb9 P md ops Q S St fuel (listed.setIfInBounds i true) (a.put oi.dst v) w→Xb9 P md ops Q S St (fuel+1) listed a w:=by
 intro fuel
 induction fuel with
 | zero =>
   intro listed a w _ hr hy hS H;refine ⟨fun h=>(by rw[h] at hr; cases hr),fun j hj=>?_⟩
   by_cases hji:j=i
   ·subst hji; exact hy.wpOp hi trivial ⟨hS.imp id (Xgx hiS),H⟩
   ·have:=ready_mono hj hji;rw[H.1] at this;cases this
 | succ fuel ih =>
   intro listed a w hfree hr hy hS H;refine ⟨fun h=>(by rw[h] at hr; cases hr),fun j hj=>?_⟩
   by_cases hji:j=i
   ·subst hji; exact hy.wpOp hi trivial ⟨hS.imp id (Xgx hiS),H⟩
   ·have h1:=H.2 j (ready_mono hj hji);obtain ⟨hjun,oj,hoj,hall⟩:=mem_ready.1 hj;have hnot:∀e ∈ oj.after,Region.binds md e=true→e.on ≠ i:=fun e he hb heq=>by
     have h1:=hall e he hb;have h0:=(mem_ready.1 hr).1;rw[heq] at h1;rcases Nat.lt_or_ge i listed.size with h' | h'
     ·simp[h'] at h0 h1; rw[h0] at h1; cases h1
     ·simp[Array.getElem?_eq_none h'] at h1
    have h2:=wpOp_putIf hoj (hfree j oj hoj hji hjun hnot) (fun cs b=>hsel i oi cs b hi) (fun cs b=>hsel j oj cs b hoj) hQ hy h1;have hfree':∀k ok,ops[k]? = some ok→k ≠ i→(listed.setIfInBounds j true).getD k true=false →
      (∀e ∈ ok.after,Region.binds md e=true→e.on ≠ i)→oi.apart ops ok=true:=fun k ok hk hki hun hno=>by
     refine hfree k ok hk hki ?_ hno
     by_cases hjk:j=k
     ·subst hjk; exact hjun
     ·rw[Xbu (Ne.symm hjk)] at hun; exact hun
    refine wpOp_mono (fun a' w' h3=>?_) h2;have hS':S w' ∨ stored St (listed.setIfInBounds j true):=by
     refine h3.2.1.imp id fun h=>?_;rw[←Array.setIfInBounds_comm _ _ hji] at h;exact Xkj hiS h
    refine ⟨hS',ih (listed.setIfInBounds j true) a' w' hfree' (ready_mono hr (Ne.symm hji)) h3.1 hS' ?_⟩;rw[Array.setIfInBounds_comm _ _ hji];exact h3.2.2
theorem Xf6 {L:List Oper}{i:Nat}{oi:Oper}{v:Value}{fuel:Nat}{listed:Array Bool}{a:Act}{w:World}(hi:L[i]? = some oi)
  (hs:Region.noSelect L.toArray=true) (hf:Region.free md L.toArray listed i=true) (hr:(Region.ready md L.toArray listed).contains i=true) (hiS:(!St.contains i)=true)
  (hQ:∀c a w,Q (.panic c) (a.put oi.dst v) w→Q (.panic c) a w) (hy:YieldsIf P L.toArray (fun _=>True) oi v a) (hS:S w)
  (h:Xb9 P md L.toArray Q S St fuel (listed.setIfInBounds i true) (a.put oi.dst v) w):Xb9 P md L.toArray Q S St (fuel+1) listed a w:=by
 have hi':L.toArray[i]? = some oi:=by rw[List.getElem?_toArray]; exact hi
 exact Xm1 hi' (Region.noSelect_spec hs) hQ (by simpa using hiS) fuel listed a w (Region.free_spec hi' hf) (by simpa using hr) hy (.inl hS) h
def waits (md:Region.Mode)(ops:Array Oper)(St:List Nat)(i:Nat):Bool := !St.contains i && St.all fun s=>match ops[s]? with | some os=>os.after.any fun e=>Region.binds md e && e.on == i | none=>true
theorem Xo {i:Nat}(h:waits md ops St i=true):i ∉ St ∧ ∀s ∈ St,∀os,ops[s]? = some os → ∃e ∈ os.after,Region.binds md e=true∧e.on=i:=by
 unfold waits at h;rw[Bool.and_eq_true] at h;refine ⟨by simpa using h.1,fun s hs os hos=>?_⟩
 have h1:=List.all_eq_true.1 h.2 s hs;rw[hos] at h1;simp only at h1;obtain ⟨j,hj,hb⟩:=Array.any_eq_true.1 h1;rw[Bool.and_eq_true] at hb;exact ⟨os.after[j],Array.getElem_mem hj,hb.1,by simpa using hb.2⟩
def Xj (St:List Nat)(listed:Array Bool):Bool:=St.all fun s => !listed.getD s false
theorem Xiz {listed:Array Bool}(h:Xj St listed=true):¬ stored St listed:=by
 rintro ⟨s,hs,h2⟩;have:=List.all_eq_true.1 h s hs;rw[h2] at this;cases this
theorem takeG {L:List Oper}{i:Nat}{oi:Oper}{v:Value}{fuel:Nat}{listed:Array Bool}{a:Act}{w:World}(hi:L[i]? = some oi)
  (hs:Region.noSelect L.toArray=true) (hf:Region.free md L.toArray listed i=true) (hr:(Region.ready md L.toArray listed).contains i=true) (hwt:waits md L.toArray St i=true) (hun:Xj St listed=true)
  (hQ:∀c a w,Q (.panic c) (a.put oi.dst v) w→Q (.panic c) a w) (hy:YieldsIf P L.toArray S oi v a) (hS:S w)
  (h:Xb9 P md L.toArray Q S St fuel (listed.setIfInBounds i true) (a.put oi.dst v) w):Xb9 P md L.toArray Q S St (fuel+1) listed a w:=by
 have hi':L.toArray[i]? = some oi:=by rw[List.getElem?_toArray]; exact hi
 obtain ⟨h1,h2⟩:=Xo hwt;exact Xkb hi' (Region.noSelect_spec hs) hQ h1 h2 fuel listed a w (Region.free_spec hi' hf) (by simpa using hr) hy hS (Xiz hun) h
theorem Xaa {L:List Oper}{i:Nat}{o:Oper}{fuel:Nat}{listed:Array Bool}{a:Act}{w:World}(hi:L[i]? = some o)(hr:Region.ready md L.toArray listed = [i])
  (hw:Region.wanted o (yielded L.toArray a.tmps)=true) (h:∀K:Act→World→Prop,(∀a' w',S w' → Xb9 P md L.toArray Q S St fuel (listed.setIfInBounds i true) a' w' → K a' w')→o.wp P a w K Q):Xb9 P md L.toArray Q S St (fuel+1) listed a w:=by
 refine ⟨fun h0=>absurd (hr ▸ h0) (by simp),fun j hj=>?_⟩
 rw[hr] at hj;obtain rfl:j=i:=by simpa using hj
 unfold wpOp;rw[List.getElem?_toArray,hi];simp only[hw,if_true];exact .inl (h _ fun a' w' hS hk=>⟨.inl hS,hk⟩)
theorem Xe1 {L:List Oper}{i j:Nat}{o o2:Oper}{fuel:Nat}{listed:Array Bool}{a:Act}{w:World}(hi:L[i]? = some o)(hj:L[j]? = some o2)(hr:Region.ready md L.toArray listed = [i,j])
  (hw:Region.wanted o (yielded L.toArray a.tmps)=true) (hw2:Region.wanted o2 (yielded L.toArray a.tmps)=true)
  (h:∀K:Act→World→Prop,(∀a' w',S w' → Xb9 P md L.toArray Q S St fuel (listed.setIfInBounds i true) a' w' → K a' w')→o.wp P a w K Q)
  (h2:∀K:Act→World→Prop,(∀a' w',S w' → Xb9 P md L.toArray Q S St fuel (listed.setIfInBounds j true) a' w' → K a' w')→o2.wp P a w K Q):Xb9 P md L.toArray Q S St (fuel+1) listed a w:=by
 refine ⟨fun h0=>absurd (hr ▸ h0) (by simp),fun k hk=>?_⟩
 rw[hr] at hk;rcases List.mem_cons.1 hk with rfl | hk
 ·unfold wpOp;rw[List.getElem?_toArray,hi];simp only[hw,if_true];exact .inl (h _ fun a' w' hS hk=>⟨.inl hS,hk⟩)
 ·obtain rfl:k=j:=by simpa using hk
  unfold wpOp;rw[List.getElem?_toArray,hj];simp only[hw2,if_true];exact .inl (h2 _ fun a' w' hS hk=>⟨.inl hS,hk⟩)
theorem Xb4 {L:List Oper}{i:Nat}{o:Oper}{fuel:Nat}{listed:Array Bool}{a:Act}{w:World}(hi:L[i]? = some o)(hr:Region.ready md L.toArray listed = [i])(hst:(St.any fun s=>(listed.setIfInBounds i true).getD s false)=true)
  (hw:Region.wanted o (yielded L.toArray a.tmps)=true) (h:∀K:Act→World→Prop,(∀a' w',Xb9 P md L.toArray Q S St fuel (listed.setIfInBounds i true) a' w' → K a' w')→o.wp P a w K Q):Xb9 P md L.toArray Q S St (fuel+1) listed a w:=by
 refine ⟨fun h0=>absurd (hr ▸ h0) (by simp),fun j hj=>?_⟩
 rw[hr] at hj;obtain rfl:j=i:=by simpa using hj
 unfold wpOp;rw[List.getElem?_toArray,hi];simp only[hw,if_true];obtain ⟨s,hs,h2⟩:=List.any_eq_true.1 hst;exact .inl (h _ fun a' w' hk=>⟨.inr ⟨s,hs,h2⟩,hk⟩)
theorem Xbd {L:List Oper}{fuel:Nat}{listed:Array Bool}{a:Act}{w:World}(hr:Region.ready md L.toArray listed = [])(h:Q .normal a w):Xb9 P md L.toArray (NP Q) S St fuel listed a w:=by
 cases fuel with
 | zero=>exact ⟨hr,rfl,h⟩
 | succ n=>exact ⟨fun _=>⟨rfl,h⟩,fun i hi=>by rw[hr] at hi; cases hi⟩
theorem Xam {id:Nat}{a:Act}{w:World}(St:List Nat)(hm:P.follows .mixedOrders=true)(hS:S w.drew)
  (h:S w.drew→Xb9 P .any ops (NP Q) S St ops.size (Array.replicate ops.size false) a w.drew):(Code.region id ops true).wp P Q a w :=
 wp_mono (wp_region_any hm (Xfw _ _ _ _ (h hS))) fun _ _ _ h=>h.2
end
section
variable {P : Program} {Q : Exit → Act → World → Prop} {md : Region.Mode} {S : World → Prop} {St : List Nat}
theorem tkF {L : List Oper} (i : Nat) (v : Value) {oi : Oper} {fuel : Nat} {listed : Array Bool} {a a' : Act} {w : World}
    (h : Xb9 P md L.toArray Q S St fuel (listed.setIfInBounds i true) a' w) (hi : L[i]? = some oi := by rfl)
    (hs : Region.noSelect L.toArray = true := by kernel_rfl) (hf : Region.free md L.toArray listed i = true := by kernel_rfl) (hr : (Region.ready md L.toArray listed).contains i = true := by kernel_rfl) (hiS : (!St.contains i) = true := by kernel_rfl)
    (hQ : ∀ c a w, Q (.panic c) (a.put oi.dst v) w → Q (.panic c) a w := by intro _ _ _ h; first | (cases h.1; done) | exact h) (hy : YieldsIf P L.toArray (fun _ => True) oi v a := by exact Or.inl ⟨by rfl, by intro w _; go_simp; try with_reducible rfl⟩) (hS : S w := by assumption)
    (ha : a.put oi.dst v = a' := by (try simp only [PU]); exact rfl) : Xb9 P md L.toArray Q S St (fuel + 1) listed a w :=
  Xf6 hi hs hf hr hiS hQ hy hS (ha ▸ h)
theorem tkG {L : List Oper} (i : Nat) (v : Value) {oi : Oper} {fuel : Nat} {listed : Array Bool} {a a' : Act} {w : World}
    (h : Xb9 P md L.toArray Q S St fuel (listed.setIfInBounds i true) a' w) (hi : L[i]? = some oi := by rfl)
    (hs : Region.noSelect L.toArray = true := by kernel_rfl) (hf : Region.free md L.toArray listed i = true := by kernel_rfl) (hr : (Region.ready md L.toArray listed).contains i = true := by kernel_rfl) (hwt : waits md L.toArray St i = true := by kernel_rfl) (hun : Xj St listed = true := by kernel_rfl)
    (hQ : ∀ c a w, Q (.panic c) (a.put oi.dst v) w → Q (.panic c) a w := by intro _ _ _ h; first | (cases h.1; done) | exact h) (hy : YieldsIf P L.toArray S oi v a := by exact Or.inl ⟨by rfl, by intro w hSw; (try dsimp only at hSw); go_simp; try with_reducible rfl⟩) (hS : S w := by assumption)
    (ha : a.put oi.dst v = a' := by (try simp only [PU]); exact rfl) : Xb9 P md L.toArray Q S St (fuel + 1) listed a w :=
  takeG hi hs hf hr hwt hun hQ hy hS (ha ▸ h)
end
end Go.Proofs.YtebkgbmijocdjaaGreat.Tp
namespace Go.Proofs.YtebkgbmijocdjaaGreat.Tp
open Go Go.RowKit
theorem Xdc {α:Type}{E:Enc α}{w w':World}{A:Option Addr}{l:List α}{row:Option Nat}(h:SlAt E w A l)(hg:w.grownBy w' row)(hn:∀a,l ≠ [] → A=some a→some a.block ≠ row):SlAt E w' A l:=fun k r hk=>by
 obtain ⟨b,off,rfl,hr⟩:=h k r hk;refine ⟨b,off,rfl,fun j v hj=>?_⟩;have h1:=hr j v hj;refine (hg.cell_far ⟨b,_,none⟩ (World.block_lt_of_cell? _ _ h1) (hn ⟨b,off,none⟩ (fun e=>by rw[e] at hk; simp at hk) rfl)).trans h1
def Inner (G:Nat)(VS:List Value)(gs:List Value)(L:List (List Spn))(W:World):Prop:=gs.length=L.length ∧ ∀(j:Nat)(l:List Spn),L[j]? = some l → ∃A' c',gs[j]? = some (.slice A' l.length c')∧SlAt spE W A' l∧l.length≤c' ∧ l.length≤100000 ∧ ∀a,l ≠ [] → A' = some a→G+1≤a.block∧a.block<W.heap.size ∧ ∀v ∈ VS,v.ownBlock ≠ some a.block
theorem Inner.below {G:Nat}{VS gs:List Value}{L:List (List Spn)}{W W':World}(h:Inner G VS gs L W)(hb:Below W.heap.size W W'):Inner G VS gs L W':=⟨h.1,fun j l hl=>by
 obtain ⟨A',c',h1,h2,h3,h4,h5⟩:=h.2 j l hl;exact ⟨A',c',h1,h2.below hb,h3,h4,fun a hl0 ha=>⟨(h5 a hl0 ha).1,by have:=(h5 a hl0 ha).2.1; have:=hb.size; omega,(h5 a hl0 ha).2.2⟩⟩⟩
theorem Inner.grown {G:Nat}{VS VS' gs:List Value}{L:List (List Spn)}{W W':World}{v:Value}(h:Inner G VS gs L W)(hg:W.grownBy W' v.ownBlock)(hv:v ∈ VS)(hVS:∀u ∈ VS',u ∈ VS∨u.ownBlock=v.ownBlock∨u.ownBlock=some W.heap.size):Inner G VS' gs L W':=⟨h.1,fun j l hl=>by
 obtain ⟨A',c',h1,h2,h3,h4,h5⟩:=h.2 j l hl;refine ⟨A',c',h1,Xdc h2 hg (fun a hl0 ha e=>(h5 a hl0 ha).2.2 v hv e.symm),h3,h4,fun a hl0 ha=>?_⟩;obtain ⟨p1,p2,p3⟩:=h5 a hl0 ha;refine ⟨p1,by have:=hg.size; omega,fun u hu=>?_⟩
 rcases hVS u hu with e | e | e
 ·exact p3 u e
 ·rw[e]; exact p3 v hv
 ·rw[e]; intro e2;have e3:W.heap.size=a.block:=Option.some.inj e2;omega⟩
theorem Inner.set {G:Nat}{VS gs:List Value}{L:List (List Spn)}{W:World}(h:Inner G VS gs L W){g i:Nat}(hg:g<G+1)(u:Value):Inner G VS gs L (W.setCell ⟨g,i,none⟩ u):=⟨h.1,fun j l hl=>by
 obtain ⟨A',c',h1,h2,h3,h4,h5⟩:=h.2 j l hl;refine ⟨A',c',h1,Xdc h2 (Xa0 W g i u) (fun a hl0 ha e=>?_),h3,h4,fun a hl0 ha=>⟨(h5 a hl0 ha).1,by have:=(h5 a hl0 ha).2.1; simpa using this,(h5 a hl0 ha).2.2⟩⟩
 have h6:=(h5 a hl0 ha).1;have e3:a.block=g:=Option.some.inj e;omega⟩
theorem Inner.snoc {G:Nat}{VS gs:List Value}{L:List (List Spn)}{W:World}(h:Inner G VS gs L W){A':Option Addr}{c':Nat}{l:List Spn}(h2:SlAt spE W A' l)(h3:l.length≤c')(h4:l.length≤100000)(h5:∀a,l ≠ [] → A' = some a→G+1≤a.block∧a.block<W.heap.size ∧ ∀v ∈ VS,v.ownBlock ≠ some a.block):Inner G VS (gs ++ [.slice A' l.length c']) (L ++ [l]) W:=⟨by simp[h.1],fun j m hm=>by
 by_cases hj:j<L.length
 ·rw[List.getElem?_append_left hj] at hm;rw[List.getElem?_append_left (by rw[h.1]; exact hj)]
  exact h.2 j m hm
 ·have hj2:j=L.length:=by
   have:=(List.getElem?_eq_some_iff.1 hm).1;simp at this;omega
  subst hj2;rw[List.getElem?_append_right (Nat.le_refl _),Nat.sub_self] at hm;cases hm;exact ⟨A',c',by rw[←h.1,List.getElem?_append_right (Nat.le_refl _),Nat.sub_self]; rfl,h2,h3,h4,h5⟩⟩
abbrev grC (Aq:Option Addr)(cq:Nat)(Ac:Option Addr)(cc:Nat)(B:Option Addr)(cb:Nat)(H:Option Addr)(ch:Nat)(t:Tbl)(q:Rq)(fg fr fd:Value):Array Value := #[.slice Aq t.p.q.length cq,.slice Ac t.p.c.length cc,.slice B t.b.length cb,.slice H t.h.length ch,.int .i64 q.src,.int .i64 q.dst,.int .i64 q.size,.int .i64 q.ready,.int .i64 q.dead,.int .i64 q.prio,.bool q.cust,fg,fr,fd]
structure BdV (n0 G:Nat)(w:World)(Aq:Option Addr)(cq:Nat)(Ac:Option Addr)(cc:Nat)(B:Option Addr)(cb:Nat)(H:Option Addr)(ch:Nat)(t:Tbl)(q:Rq)(fg fr fd vg vr vd:Value)(gs rs:List Value)(LG LR:List (List Spn))(LD:List Int)(W:World):Prop where
 tb:Bk W n0 29 (tbA Aq cq Ac cc B cb H ch t)
 qb:Bk W (n0+1) 31 (rqL q).toArray
 g:Bk W G 135 (grC Aq cq Ac cc B cb H ch t q fg fr fd)
 rg:W.ownsRow (G+1) 136 1 vg gs.length gs
 rr:W.ownsRow (G+1) 136 1 vr rs.length rs
 rd:W.ownsRow (G+1) 3 1 vd LD.length (LD.map (Value.int .i64))
 ne:vg.ownBlock=none∨vg.ownBlock ≠ vr.ownBlock
 ig:Inner G [vg,vr,vd] gs LG W
 ir:Inner G [vg,vr,vd] rs LR W
 be:Below n0 w W
 hG:n0+2≤G
section
variable {n0 G:Nat} {w W:World} {Aq Ac B H:Option Addr} {cq cc cb ch:Nat} {t:Tbl} {q:Rq} {fg fr fd vg vr vd:Value} {gs rs:List Value} {LG LR:List (List Spn)} {LD:List Int}
theorem BdV.size (h:BdV n0 G w Aq cq Ac cc B cb H ch t q fg fr fd vg vr vd gs rs LG LR LD W):G+1≤W.heap.size∧n0+2≤G:=⟨by have:=h.g.lt; omega,h.hG⟩
theorem BdV.below {W':World}(h:BdV n0 G w Aq cq Ac cc B cb H ch t q fg fr fd vg vr vd gs rs LG LR LD W)(hb:Below W.heap.size W W'):BdV n0 G w Aq cq Ac cc B cb H ch t q fg fr fd vg vr vd gs rs LG LR LD W' :=
 ⟨h.tb.below hb h.tb.lt,h.qb.below hb h.qb.lt,h.g.below hb h.g.lt,Xa6 h.rg hb,Xa6 h.rr hb,Xa6 h.rd hb,h.ne,h.ig.below hb,h.ir.below hb,h.be.trans (hb.mono (by have:=h.size; omega)),h.hG⟩
theorem Xgn {W:World}{base k k' n n':Nat}{t t':TypeId}{v v':Value}{xs xs':List Value}(ht:t ≠ t')(h:W.ownsRow base t k v n xs)(h':W.ownsRow base t' k' v' n' xs'):v.ownBlock=none∨v.ownBlock ≠ v'.ownBlock:=by
 rcases h.2 with ⟨rfl,_⟩ | ⟨g,cap,cur,rfl,_,hg,_⟩
 ·exact .inl rfl
 ·refine .inr fun e=>?_;rcases h'.2 with ⟨rfl,_⟩ | ⟨g',cap',cur',rfl,_,hg',_⟩
  ·cases e
  ·cases e;rw[hg] at hg';cases hg';exact ht rfl
theorem Xq0 {a b:Option Nat}(h:b=none∨b ≠ a):a=none∨a ≠ b:=by
 rcases h with h | h
 ·rw[h];cases a with
  | none=>exact .inl rfl
  | some x=>exact .inr (by simp)
 ·exact .inr fun e=>h e.symm
theorem Xpr {W:World}{base k n:Nat}{t:TypeId}{v v' u:Value}{xs:List Value}(h:W.ownsRow base t k u n xs)(hne:u.ownBlock=none∨u.ownBlock ≠ v.ownBlock)(hat:v'.ownBlock=v.ownBlock∨v'.ownBlock=some W.heap.size):u.ownBlock=none∨u.ownBlock ≠ v'.ownBlock:=by
 rcases hat with e | e
 ·rw[e]; exact hne
 ·rw[e];cases hu:u.ownBlock with
  | none=>exact .inl rfl
  | some b =>
    refine .inr fun e2=>?_;have:=(Xbp h b hu).2;cases e2;omega
theorem BdV.growG {W':World}{v':Value}{A':Option Addr}{c':Nat}{l:List Spn}(h:BdV n0 G w Aq cq Ac cc B cb H ch t q fg fr fd vg vr vd gs rs LG LR LD W)(hg:W.grownBy W' vg.ownBlock)(hr:W'.ownsRow (G+1) 136 1 v' (gs.length+1) (gs ++ [.slice A' l.length c']))(hat:v'.ownBlock=vg.ownBlock∨v'.ownBlock=some W.heap.size)
  (h2:SlAt spE W A' l) (h3:l.length≤c') (h4:l.length≤100000) (h5:∀a,l ≠ [] → A' = some a→G+1≤a.block∧a.block<W.heap.size ∧ ∀v ∈ [vg,vr,vd],v.ownBlock ≠ some a.block) :
  BdV n0 G w Aq cq Ac cc B cb H ch t q fg fr fd v' vr vd (gs ++ [.slice A' l.length c']) rs (LG ++ [l]) LR LD W':=by
 have up:∀ {b:Nat} {u:TypeId} {cs:Array Value},u ≠ 136→Bk W b u cs→Bk W' b u cs:=fun {b u cs} ht hb=>hb.grown hg (Xa1 hb ht h.rg);have hrr:vr.ownBlock=none∨vr.ownBlock ≠ vg.ownBlock:=Xq0 h.ne;have hrd:vd.ownBlock=none∨vd.ownBlock ≠ vg.ownBlock:=Xgn (by decide) h.rd h.rg
 have hVS:∀u ∈ [v',vr,vd],u ∈ [vg,vr,vd] ∨ u.ownBlock=vg.ownBlock∨u.ownBlock=some W.heap.size:=fun u hu=>by
  simp only[List.mem_cons,List.not_mem_nil,or_false] at hu ⊢;rcases hu with rfl | rfl | rfl
  ·exact .inr hat
  ·exact .inl (.inr (.inl rfl))
  ·exact .inl (.inr (.inr rfl))
 refine ⟨up (by decide) h.tb,up (by decide) h.qb,up (by decide) h.g,by rw[List.length_append]; exact hr,h.rr.kept hg hrr,h.rd.kept hg hrd,Xq0 (Xpr h.rr hrr hat),(h.ig.snoc h2 h3 h4 h5).grown hg (by simp) hVS,h.ir.grown hg (by simp) hVS,h.be.grown hg (by have:=h.size; omega) (fun r e=>by have:=(Xbp h.rg r e).1; have:=h.hG; omega),h.hG⟩
theorem BdV.growR {W':World}{v':Value}{A':Option Addr}{c':Nat}{l:List Spn}(h:BdV n0 G w Aq cq Ac cc B cb H ch t q fg fr fd vg vr vd gs rs LG LR LD W)(hg:W.grownBy W' vr.ownBlock)(hr:W'.ownsRow (G+1) 136 1 v' (rs.length+1) (rs ++ [.slice A' l.length c']))(hat:v'.ownBlock=vr.ownBlock∨v'.ownBlock=some W.heap.size)
  (h2:SlAt spE W A' l) (h3:l.length≤c') (h4:l.length≤100000) (h5:∀a,l ≠ [] → A' = some a→G+1≤a.block∧a.block<W.heap.size ∧ ∀v ∈ [vg,vr,vd],v.ownBlock ≠ some a.block) :
  BdV n0 G w Aq cq Ac cc B cb H ch t q fg fr fd vg v' vd gs (rs ++ [.slice A' l.length c']) LG (LR ++ [l]) LD W':=by
 have up:∀ {b:Nat} {u:TypeId} {cs:Array Value},u ≠ 136→Bk W b u cs→Bk W' b u cs:=fun {b u cs} ht hb=>hb.grown hg (Xa1 hb ht h.rr);have hrd:vd.ownBlock=none∨vd.ownBlock ≠ vr.ownBlock:=Xgn (by decide) h.rd h.rr
 have hVS:∀u ∈ [vg,v',vd],u ∈ [vg,vr,vd] ∨ u.ownBlock=vr.ownBlock∨u.ownBlock=some W.heap.size:=fun u hu=>by
  simp only[List.mem_cons,List.not_mem_nil,or_false] at hu ⊢;rcases hu with rfl | rfl | rfl
  ·exact .inl (.inl rfl)
  ·exact .inr hat
  ·exact .inl (.inr (.inr rfl))
 refine ⟨up (by decide) h.tb,up (by decide) h.qb,up (by decide) h.g,h.rg.kept hg h.ne,by rw[List.length_append]; exact hr,h.rd.kept hg hrd,Xpr h.rg h.ne hat,h.ig.grown hg (by simp) hVS,(h.ir.snoc h2 h3 h4 h5).grown hg (by simp) hVS,h.be.grown hg (by have:=h.size; omega) (fun r e=>by have:=(Xbp h.rr r e).1; have:=h.hG; omega),h.hG⟩
theorem BdV.growD {W':World}{v':Value}{d:Int}(h:BdV n0 G w Aq cq Ac cc B cb H ch t q fg fr fd vg vr vd gs rs LG LR LD W)(hg:W.grownBy W' vd.ownBlock)(hr:W'.ownsRow (G+1) 3 1 v' (LD.length+1) (LD.map (Value.int .i64) ++ [.int .i64 d]))(hat:v'.ownBlock=vd.ownBlock∨v'.ownBlock=some W.heap.size) :
  BdV n0 G w Aq cq Ac cc B cb H ch t q fg fr fd vg vr v' gs rs LG LR (LD ++ [d]) W':=by
 have up:∀ {b:Nat} {u:TypeId} {cs:Array Value},u ≠ 3→Bk W b u cs→Bk W' b u cs:=fun {b u cs} ht hb=>hb.grown hg (Xa1 hb ht h.rd);have hVS:∀u ∈ [vg,vr,v'],u ∈ [vg,vr,vd] ∨ u.ownBlock=vd.ownBlock∨u.ownBlock=some W.heap.size:=fun u hu=>by
  simp only[List.mem_cons,List.not_mem_nil,or_false] at hu ⊢;rcases hu with rfl | rfl | rfl
  ·exact .inl (.inl rfl)
  ·exact .inl (.inr (.inl rfl))
  ·exact .inr hat
 refine ⟨up (by decide) h.tb,up (by decide) h.qb,up (by decide) h.g,h.rg.kept hg (Xgn (by decide) h.rg h.rd),h.rr.kept hg (Xgn (by decide) h.rr h.rd),by rw[List.length_append,List.map_append]; exact hr,h.ne,h.ig.grown hg (by simp) hVS,h.ir.grown hg (by simp) hVS,h.be.grown hg (by have:=h.size; omega) (fun r e=>by have:=(Xbp h.rd r e).1; have:=h.hG; omega),h.hG⟩
theorem BdV.put {i:Nat}{fg' fr' fd' u:Value}(h:BdV n0 G w Aq cq Ac cc B cb H ch t q fg fr fd vg vr vd gs rs LG LR LD W)(he:(grC Aq cq Ac cc B cb H ch t q fg fr fd).setIfInBounds i u=grC Aq cq Ac cc B cb H ch t q fg' fr' fd'):BdV n0 G w Aq cq Ac cc B cb H ch t q fg' fr' fd' vg vr vd gs rs LG LR LD (W.setCell ⟨G,i,none⟩ u):=by
 have hb:=h.g.put i u;rw[he] at hb;refine ⟨h.tb.other (p:=⟨G,i,none⟩) (by show n0 ≠ G; have:=h.hG; omega) _,h.qb.other (p:=⟨G,i,none⟩) (by show n0+1 ≠ G; have:=h.hG; omega) _,hb,h.rg.kept (Xa0 W G i u) (.inr (Xa1 h.g (by decide) h.rg).symm),h.rr.kept (Xa0 W G i u) (.inr (Xa1 h.g (by decide) h.rr).symm),h.rd.kept (Xa0 W G i u) (.inr (Xa1 h.g (by decide) h.rd).symm),h.ne,h.ig.set (by omega) u,h.ir.set (by omega) u,h.be.setCell (p:=⟨G,i,none⟩) (by show n0≤G; have:=h.hG; omega) _,h.hG⟩
end
theorem Xbj {P:Program}{w:World}{o:Oper}{a:Act}{K:Act→World→Prop}{Q:Exit→Act→World→Prop}(s x:Operand)(t e:TypeId)(ho:o.op = .call { callee:=.builtin .append,args := #[s,x],argTypes := #[t,t] })
  (base:Nat) (i:TypeInfo) (z:Value) (size bytes:Nat) (ht:P.underlying t=some (.slice e)) (hi:P.info? e=some i) (hz:i.zero=some z) (hsize:i.size=size) (hby:i.bytes=bytes) (hzs:z.cells.size=size) (hsz:0<size)
  (v:Value) (n:Nat) (xs:List Value) (hs:a.eval s=v) (hown:w.ownsRow base e size v n xs) (ad:Addr) (news:List Value) (hx:a.eval x = .slice (some ad) 1 1) (hl:news.length=1 * size) (hnews:∀j u,news[j]? = some u→w.cell? (ad.add j)=some u) (h1:∀u ∈ news,u.oneCell' = true)
  (h63:n+1≤maxLen) (hbytes:(n+1) * bytes≤140737488355328) (hbase:base≤w.heap.size)
  (h:∀v' w',w'.ownsRow base e size v' (n+1) (xs ++ news)→w.grownBy w' v.ownBlock→(v'.ownBlock=v.ownBlock∨v'.ownBlock=some w.heap.size)→K (a.put o.dst v') w'):o.wp P a w K Q:=by
 obtain ⟨v',w',hr,h2,h3,h4,h5⟩:=run_append_own_at (P:=P) w base t o.type e i z size bytes ht hi hz hsize hby hzs hsz v n xs hown ad 1 1 news hl hnews h1 h63 hbytes hbase;unfold Oper.wp execOp;simp only[ho,resolve,invoke,builtin,Sem.run_bind,Sem.run_pure,Result.andThen_ok,List.map_toArray,List.map_cons,List.map_nil,hs,hx,hr];exact h v' w' h2 h3 h5
theorem Xa8 {W:World}{base k n:Nat}{t:TypeId}{v:Value}{xs:List Value}(h:W.ownsRow base t k v n xs):∃A c,v = .slice A n c:=by
 rcases h.2 with ⟨rfl,rfl⟩ | ⟨g,cap,cur,rfl,_⟩
 ·exact ⟨none,0,rfl⟩
 ·exact ⟨_,_,rfl⟩
theorem Xsw:(Tryz.prog.info? 136).map (fun i=>(i.zero,i.size,i.bytes))=some (some (.slice none 0 0),1,24):=by kernel_rfl
theorem infoin:(Tryz.prog.info? 3).map (fun i=>(i.zero,i.size,i.bytes))=some (some (.int .i64 0),1,8):=by kernel_rfl
end Go.Proofs.YtebkgbmijocdjaaGreat.Tp
namespace Go.Proofs.YtebkgbmijocdjaaGreat.Tp
open Go Go.RowKit
theorem row_at {W:World}{base n:Nat}{t:TypeId}{v:Value}{xs:List Value}(h:W.ownsRow base t 1 v n xs){j:Nat}{u:Value}(hj:xs[j]? = some u):∃g c,v = .slice (some ⟨g,0,none⟩) n c∧W.cell? ⟨g,0+j,none⟩=some u:=by
 rcases h.2 with ⟨rfl,rfl⟩ | ⟨g,cap,cur,rfl,_,hg,_,_,_,ht⟩
 ·have:=h.1;have hl:xs = []:=List.eq_nil_of_length_eq_zero (by omega)
  rw[hl] at hj;simp at hj
 ·refine ⟨g,cap,rfl,?_⟩;rw[Nat.zero_add];have h1:cur.toList[j]? = some u:=by
   rw[←ht,List.getElem?_take] at hj
   split at hj
   ·exact hj
   ·cases hj
  rw[(show Bk W g t cur from hg).cell];simpa using h1
theorem Xlf:∀(L:List Int),L.map (Value.int .i64)=L.flatMap intE.f
 | [] => rfl
 | x :: L=>by rw[List.map_cons,List.flatMap_cons,Xlf L]; rfl
theorem Inner.sls {G:Nat}{VS gs:List Value}{L:List (List Spn)}{W:World}{v:Value}(h:Inner G VS gs L W)(hr:W.ownsRow (G+1) 136 1 v gs.length gs){A:Option Addr}{n c:Nat}(e:v = .slice A n c):Xp5 W A L:=fun j l hl=>by
 obtain ⟨A',c',h1,h2,h3,h4,_⟩:=h.2 j l hl;obtain ⟨g,c2,e2,hc⟩:=row_at hr h1;rw[e] at e2
 injection e2 with e3 _ _
 exact ⟨g,0,A',c',e3,hc,h2,h3,h4⟩
theorem BdV.gat {n0 G:Nat}{w W:World}{Aq Ac B H:Option Addr}{cq cc cb ch:Nat}{t:Tbl}{q:Rq}{vg vr vd:Value}{gs rs:List Value}(h:BdV n0 G w Aq cq Ac cc B cb H ch t q vg vr vd vg vr vd gs rs (Xb6 t) (Xak t q.size) (t.p.c.map fun c=>dur c q.size) W)(ht:Xcm W Aq cq Ac cc B cb H ch t)(hok:Xb5 t)(hq:RqOK t.p q):GAt W G t q:=by
 obtain ⟨Ag,cg,eg⟩:=Xa8 h.rg;obtain ⟨Ar,cr,er⟩:=Xa8 h.rr;obtain ⟨Ad,cd,ed⟩:=Xa8 h.rd;have l1:gs.length=t.p.c.length:=by rw[h.ig.1]; unfold Xb6; simp
 have l2:rs.length=t.p.q.length:=by rw[h.ir.1]; unfold Xak; simp
 have l3:(t.p.c.map fun c=>dur c q.size).length=t.p.c.length:=by simp
 have hb:=h.g;rw[eg,er,ed,l1,l2,l3] at hb;have hrd:=h.rd;rw[Xlf] at hrd;obtain ⟨A2,c2,e2,hs,_⟩:=Xah (E:=intE) hrd;rw[ed] at e2
 injection e2 with e3 _ _
 subst e3;exact ⟨Aq,cq,Ac,cc,B,cb,H,ch,Ag,cg,Ar,cr,Ad,cd,hb,ht,h.ig.sls h.rg eg,h.ir.sls h.rr er,hs,hok,hq⟩
theorem Xhw (Aq:Option Addr)(cq:Nat)(Ac:Option Addr)(cc:Nat)(B:Option Addr)(cb:Nat)(H:Option Addr)(ch:Nat)(t:Tbl)(q:Rq)(w:World)(ht:Xcm w Aq cq Ac cc B cb H ch t)(hok:Xb5 t)(hq:RqOK t.p q) :
  Calls Tryz.prog 26 #[.agg (tbA Aq cq Ac cc B cb H ch t),.agg (rqA q)] w fun e w' => ∃G,e = .returned (.tuple #[.pointer (some ⟨G,0,none⟩),.bool true])∧GAt w' G t q∧w.heap.size≤G∧Below w.heap.size w w':=by
 have HT:=Lib.hid ht;have HOK:=Lib.hid hok;have HQ:=Lib.hid hq;obtain ⟨_,_,rfl,rfl,-,HB0,HK0,HK1⟩:=box2 w 29 (tbA Aq cq Ac cc B cb H ch t) 31 (rqL q).toArray;have HTY:=Lib.hid (fun w' hb=>Xo1 Aq cq Ac cc B cb H ch t w' (ht.below (w':=w') hb) hok);have HRQ:=Lib.hid (fun w' hb=>Xc5 Aq cq Ac cc t.p q w' (ht.below (w':=w') hb).p);obtain ⟨a0,a1,a2,a3⟩:=HK0.out.c4;clear ht hok hq;go_enter Tryz.func26,Tryz.ntmps26;go_wp2_with fail;clear a0 a1 a2 a3;generalize ((w.alloc (.cells (tbA Aq cq Ac cc B cb H ch t) 29)).alloc (.cells (rqL q).toArray 31))=W at HB0 HK0 HK1 ⊢;generalize hn0:w.heap.size=n0 at HB0 HK0 HK1 ⊢;refine (HTY.out W (by rw[hn0]; exact HB0.out)).mono ?_
 rintro e w1 ⟨rfl,hb1⟩;have HM0:=Lib.hid (HK0.out.below hb1 HK0.out.lt);have HM1:=Lib.hid (HK1.out.below hb1 HK1.out.lt);have HB1:Hid (Below n0 w w1):=HB0.out.trans (hb1.mono (by have:=HK1.out.lt; omega))
 clear hb1 HB0 HK0 HK1;obtain ⟨a0,a1,a2,a3⟩:=HM0.out.c4;obtain ⟨b0,b1,b2,b3,b4,b5,b6⟩:=HM1.out.c7;go_wp2_with fail;refine (HRQ.out w1 (by rw[hn0]; exact HB1.out)).mono ?_
 rintro e w2 ⟨q1,rfl,hq1,hb2⟩;have hq10:q1=0:=hq1.2 HQ.out;subst hq10;have HN0:=Lib.hid (HM0.out.below hb2 HM0.out.lt);have HN1:=Lib.hid (HM1.out.below hb2 HM1.out.lt);have HB2:Hid (Below n0 w w2):=HB1.out.trans (hb2.mono (by have:=HM1.out.lt; omega))
 clear hb2 HB1 HM0 HM1 hq1 HRQ HTY a0 a1 a2 a3 b0 b1 b2 b3 b4 b5 b6;obtain ⟨a0,a1,a2,a3⟩:=HN0.out.c4;obtain ⟨b0,b1,b2,b3,b4,b5,b6⟩:=HN1.out.c7;have HG3:Hid (Bk (w2.alloc (.cells (grC Aq cq Ac cc B cb H ch t q (.slice none 0 0) (.slice none 0 0) (.slice none 0 0)) 135)) w2.heap.size 135 (grC Aq cq Ac cc B cb H ch t q (.slice none 0 0) (.slice none 0 0) (.slice none 0 0))):=Bk.new _ _ _;have HB3:Hid (Below w2.heap.size w2 (w2.alloc (.cells (grC Aq cq Ac cc B cb H ch t q (.slice none 0 0) (.slice none 0 0) (.slice none 0 0)) 135))):=(Below.refl _ _).alloc (Nat.le_refl _) _;have HV3:Hid (BdV n0 w2.heap.size w Aq cq Ac cc B cb H ch t q (.slice none 0 0) (.slice none 0 0) (.slice none 0 0) (.slice none 0 0) (.slice none 0 0) (.slice none 0 0) [] [] [] [] [] (w2.alloc (.cells (grC Aq cq Ac cc B cb H ch t q (.slice none 0 0) (.slice none 0 0) (.slice none 0 0)) 135))) :=
  ⟨HN0.out.below HB3.out HN0.out.lt,HN1.out.below HB3.out HN1.out.lt,HG3.out,World.ownsRow_nil _ _ _ _,World.ownsRow_nil _ _ _ _,World.ownsRow_nil _ _ _ _,.inl rfl,⟨rfl,fun j l hl=>by simp at hl⟩,⟨rfl,fun j l hl=>by simp at hl⟩,HB2.out.trans (HB3.out.mono (by have:=HN1.out.lt; omega)),by have:=HN1.out.lt; omega⟩
 have c1:=HV3.out.tb.n1;go_wp2_with fail;clear a0 a1 a2 a3 b0 b1 b2 b3 b4 b5 b6 c1 HG3 HB3 HN0 HN1 HB2;generalize (w2.alloc (.cells (grC Aq cq Ac cc B cb H ch t q (.slice none 0 0) (.slice none 0 0) (.slice none 0 0)) 135))=w3 at HV3 ⊢;generalize w2.heap.size=G at HV3 ⊢;go_loopw [7,8,9,10,11,12,34] (fun _ _ _ _ _ _ i wr => ∃(k:Nat) (vg vd:Value) (gs:List Value),k≤t.p.c.length∧i = .int .i64 k∧BdV n0 G w Aq cq Ac cc B cb H ch t q vg (.slice none 0 0) vd vg (.slice none 0 0) vd gs [] ((Xb6 t).take k) [] ((t.p.c.map fun c=>dur c q.size).take k) wr) (fun _ _ _ _ _ _ i _=>t.p.c.length - (intOf i).toNat)
 case atStart=>exact ⟨0,_,_, [],Nat.zero_le _,rfl,HV3.out⟩
 case round =>
  obtain ⟨k,vg,vd,gs,hk,rfl,hv⟩:=hrel;have HV:=Lib.hid hv;clear hv HV3
  by_cases hlt:k<t.p.c.length
  ·obtain ⟨c,hc⟩:∃c,t.p.c[k]? = some c:=⟨_,List.getElem?_eq_getElem hlt⟩;have HC:=Lib.hid hc;have HTW:=Lib.hid (fun W' hb=>HT.out.below (w':=W') hb);obtain ⟨bc,oc,hAc,hr⟩:=(HTW.out wr (by rw[hn0]; exact HV.out.be)).p.c.one (by omega)
   have hrg:=hr k c hc;have c0:wr.cell? ⟨bc,oc+k * 7,none⟩=some (.int .i64 c.src):=hrg 0 _ rfl;have c1:wr.cell? ⟨bc,oc+k * 7+1,none⟩=some (.int .i64 c.dst):=hrg 1 _ rfl;have c2:wr.cell? ⟨bc,oc+k * 7+2,none⟩=some (.int .i64 c.beg):=hrg 2 _ rfl;have c3:wr.cell? ⟨bc,oc+k * 7+3,none⟩=some (.int .i64 c.fin):=hrg 3 _ rfl;have c4:wr.cell? ⟨bc,oc+k * 7+4,none⟩=some (.int .i64 c.rate):=hrg 4 _ rfl;have c5:wr.cell? ⟨bc,oc+k * 7+5,none⟩=some (.int .i64 c.rng):=hrg 5 _ rfl;have c6:wr.cell? ⟨bc,oc+k * 7+6,none⟩=some (.int .i64 c.loss):=hrg 6 _ rfl;obtain ⟨_,_,rfl,rfl,-,HBX,HCB⟩:=box1 wr 104 (ctA c);have HV5:=Lib.hid (HV.out.below HBX.out);have HGP:Hid ((Xb6 t).take (k+1)=(Xb6 t).take k ++ [Xg5 c (Xb3 t.b k) c.beg]):=take_snoc (by unfold Xb6; rw[List.getElem?_map,List.getElem?_zipIdx,hc]; simp)
   have HDP:Hid ((t.p.c.map fun c=>dur c q.size).take (k+1)=(t.p.c.map fun c=>dur c q.size).take k ++ [dur c q.size]):=take_snoc (by rw[List.getElem?_map,hc]; rfl)
   have HFR:=Lib.hid (fun w' hb=>Xs3 Aq cq Ac cc t.p B cb t.b k c w' (HTW.out w' hb).p (HTW.out w' hb).b (by have:=HOK.out.2.1.1; omega) ⟨HOK.out.1,HOK.out.2.1⟩ hc)
   have HLL:Hid ((Xg5 c (Xb3 t.b k) c.beg).length≤100000):=by
    show _≤_;unfold Xg5;rw[List.length_append];have h1:=Xhm (max c.beg c.beg) (Xb3 t.b k);have h2:=Xnm (Xbo (max c.beg c.beg) (Xb3 t.b k)).2 c.fin;have h3:=Xhv t.b k;have h4:=HOK.out.2.1.1;omega
   have hk0:(0:Int)≤(k:Int):=by omega
   have hk1:(k:Int)<(t.p.c.length:Int):=by omega
   obtain ⟨a0,a1,a2⟩:=HV5.out.tb.c3;have HLT:=Lib.hid (fun r e=>(Xbp HV.out.rg r e).2);have HLT2:=Lib.hid (fun r e=>(Xbp HV.out.rd r e).2);have HZ:Hid (G+1≤wr.heap.size∧n0+2≤G):=HV.out.size;clear hc hr hrg HV;subst hAc;go_wp2_with fail;clear c0 c1 c2 c3 c4 c5 c6 a0 a1 a2;have hz5:(wr.alloc (.cells (ctA c) 104)).heap.size=wr.heap.size+1:=by simp
   have HZ5:=Lib.hid hz5;clear hz5;generalize (wr.alloc (.cells (ctA c) 104))=w5 at HCB HV5 HZ5 ⊢;refine (HFR.out w5 (by rw[hn0]; exact HV5.out.be)).mono ?_
   rintro e w6 ⟨A6,c6,rfl,hs6,hc6,hba6,hb6⟩;have HCB6:=Lib.hid (HCB.out.below hb6 HCB.out.lt);have HV6:=Lib.hid (HV5.out.below hb6);have HS6:=Lib.hid hs6;have HL6:=Lib.hid hc6;have HA6:=Lib.hid hba6;clear hb6 hs6 hc6 hba6 HCB HV5 HBX HFR;generalize Xg5 c (Xb3 t.b k) c.beg=LS at HGP HS6 HL6 HLL ⊢;have HCD:=Lib.hid (fun w=>Xfs c ((HOK.out.1.2.2.1 c (List.mem_of_getElem? HC.out)).1) q.size HQ.out.2.2.2.2.1 w);obtain ⟨d0,d1,d2,d3,d4,d5,d6⟩:=HCB6.out.c7;have b2:=HV6.out.qb.n2;go_wp2_with fail;clear d0 d1 d2 d3 d4 d5 d6 b2;refine (HCD.out w6).mono ?_;rintro e w7 ⟨rfl,hb7⟩;have HV7:=Lib.hid (HV6.out.below hb7);have HS7:=Lib.hid (HS6.out.below hb7);have HA7:Hid (∀a,LS ≠ [] → A6=some a→G+1≤a.block∧a.block<w7.heap.size ∧ ∀v ∈ [vg,.slice none 0 0,vd],v.ownBlock ≠ some a.block):=fun a hl ha=>by
    have h1:=HA6.out a ha;have h2:=HZ5.out;have h3:=HZ.out;refine ⟨by omega,?_,fun v hv e=>?_⟩
    ·cases hL:LS with
     | nil=>exact absurd hL hl
     | cons s l =>
       obtain ⟨b,off,e,hr⟩:=HS7.out 0 s (by rw[hL]; rfl)
       rw[ha] at e;cases e;exact World.block_lt_of_cell? _ _ (hr 0 _ rfl)
    ·simp only[List.mem_cons,List.not_mem_nil,or_false] at hv;rcases hv with rfl | rfl | rfl
     ·have:=HLT.out _ e; omega
     ·cases e
     ·have:=HLT2.out _ e; omega
   clear hb7 HV6 HS6 HCB6 HA6 HCD;generalize dur c q.size=DD at HDP ⊢;obtain ⟨Ag,cg,rfl⟩:=Xa8 HV7.out.rg;obtain ⟨Ad,cd,rfl⟩:=Xa8 HV7.out.rd;obtain ⟨i1,hi1,hy1,hy2,hy3⟩:=info_parts Xsw;obtain ⟨i2,hi2,hw1,hw2,hw3⟩:=info_parts infoin;have HGL:Hid (gs.length≤64):=by
    have h1:=HV7.out.ig.1;have h2:=HOK.out.1.1.2.2;show _≤_;rw[h1,List.length_take];omega
   have HDL:Hid (((t.p.c.map fun c=>dur c q.size).take k).length≤64):=by
    have h2:=HOK.out.1.1.2.2;show _≤_;rw[List.length_take];omega
   have hk64:(k:Int)≤64:=by have:=HOK.out.1.1.2.2; omega
   generalize (t.p.c.map fun c=>dur c q.size).take k=LD at HV7 HDP HDL HA7 ⊢;generalize (Xb6 t).take k=LG at HV7 HGP ⊢;have HSF:Hid (∀X,Bk X G 135 (grC Aq cq (some ⟨bc,oc,none⟩) cc B cb H ch t q (.slice Ag gs.length cg) (.slice none 0 0) (.slice Ad LD.length cd))→X.cell? ⟨G,11,none⟩=some (.slice Ag gs.length cg)∧X.cell? ⟨G,13,none⟩=some (.slice Ad LD.length cd)):=fun X hb=>⟨hb.cell 11,hb.cell 13⟩;go_wp2_with fail;refine Xam (S:=fun w' => w'.cell? ⟨G,11,none⟩=some (.slice Ag gs.length cg)∧w'.cell? ⟨G,13,none⟩=some (.slice Ad LD.length cd)) [18,21] (by kernel_rfl) (HSF.out _ (HV7.out.below (Below.refl w7.heap.size w7).drew).g) (fun hHeld=>?_)
   have HVX0:=Lib.hid (HV7.out.below (Below.refl w7.heap.size w7).drew);have HSV:Hid (∀X,Below w7.drew.heap.size w7.drew X→SlAt spE X A6 LS):=fun X hb=>(HS7.out.below (Below.refl w7.heap.size w7).drew).below hb;have HBX0:Hid (Below w7.drew.heap.size w7.drew w7.drew):=Below.refl _ _
   replace HA7:Hid (∀a,LS ≠ [] → A6=some a→G+1≤a.block∧a.block<w7.drew.heap.size ∧ ∀v ∈ ([.slice Ag gs.length cg,.slice none 0 0,.slice Ad LD.length cd]:List Value),v.ownBlock ≠ some a.block):=HA7
   clear HV7 HS7;generalize w7.drew=V at HVX0 HSV HBX0 HA7 hHeld ⊢;refine tkF 0 _ ?_;refine tkF 1 _ ?_;refine tkF 2 _ ?_;refine tkF 3 _ ?_;refine tkF 4 _ ?_;refine tkG 5 (.slice Ag gs.length cg) ?_;refine tkF 6 _ ?_;refine tkF 9 _ ?_;refine tkF 10 _ ?_;refine tkF 11 _ ?_;refine tkG 12 (.slice Ad LD.length cd) ?_;refine tkF 13 _ ?_;clear hHeld;refine Xe1 (i:=7) (j:=14) rfl rfl (by kernel_rfl) (by rfl) (by rfl) (fun K hK=>?_) (fun K hK=>?_)
   ·go_simp;have hb:=(Below.refl V.heap.size V).alloc (Nat.le_refl _) (.cells #[(.slice A6 LS.length c6)] 136);have hv:=HVX0.out.below hb;have hp:Bk (V.alloc (.cells #[(.slice A6 LS.length c6)] 136)) V.heap.size 136 #[(.slice A6 LS.length c6)]:=Bk.new _ _ _;have HVX1:=Lib.hid hv;have HP1X1:=Lib.hid hp;have HBX1:=Lib.hid (Xa HBX0.out hb);refine hK _ _ (HSF.out _ HVX1.out.g) ?_;clear hK K hb hv hp HVX0 HBX0
    try simp only[PU]
    generalize (V.alloc (.cells #[(.slice A6 LS.length c6)] 136))=X1 at HVX1 HP1X1 HBX1 ⊢;generalize V.heap.size=p1 at HP1X1 ⊢;refine Xe1 (i:=8) (j:=14) rfl rfl (by kernel_rfl) (by rfl) (by rfl) (fun K hK=>?_) (fun K hK=>?_)
    ·refine Xbj (.tmp 60) (.tmp 62) 133 136 rfl (G+1) i1 (.slice none 0 0) 1 24 Tryz.underlying133 hi1 hy1 hy2 hy3 rfl (by decide) (.slice Ag gs.length cg) gs.length gs rfl HVX1.out.rg ⟨p1,0,none⟩ [(.slice A6 LS.length c6)] rfl rfl (fun j u hu=>by rw[Addr.add_mid,Nat.zero_add,HP1X1.out.cell]; simpa using hu) (fun u hu=>by rw[List.mem_singleton.1 hu]; rfl) (by have:=HGL.out; unfold maxLen; omega) (by have:=HGL.out; omega) HVX1.out.size.1 (fun v8 w8 h2 h3 h4=>?_)
     obtain ⟨A8,c8,rfl⟩:=Xa8 h2;have hv:=HVX1.out.growG h3 h2 h4 (HSV.out _ HBX1.out) HL6.out HLL.out (fun a hl ha=>⟨(HA7.out a hl ha).1,by have h5:=(HA7.out a hl ha).2.1; have h6:=HBX1.out.size; omega,(HA7.out a hl ha).2.2⟩)
     have HVX2:=Lib.hid hv;refine hK _ _ (HSF.out _ HVX2.out.g) ?_;clear hK K hv h2 h3 h4 HVX1 HBX1 HP1X1
     try simp only[PU]
     generalize w8=X2 at HVX2 ⊢;refine Xaa (i:=14) rfl (by kernel_rfl) (by rfl) (fun K hK=>?_)
     go_simp;have hb:=(Below.refl X2.heap.size X2).alloc (Nat.le_refl _) (.cells #[(.int .i64 DD)] 3);have hv:=HVX2.out.below hb;have hp:Bk (X2.alloc (.cells #[(.int .i64 DD)] 3)) X2.heap.size 3 #[(.int .i64 DD)]:=Bk.new _ _ _;have HVX3:=Lib.hid hv;have HP2X3:=Lib.hid hp;refine hK _ _ (HSF.out _ HVX3.out.g) ?_;clear hK K hb hv hp HVX2
     try simp only[PU]
     generalize (X2.alloc (.cells #[(.int .i64 DD)] 3))=X3 at HVX3 HP2X3 ⊢;generalize X2.heap.size=p2 at HP2X3 ⊢;refine Xaa (i:=15) rfl (by kernel_rfl) (by rfl) (fun K hK=>?_)
     refine Xbj (.tmp 67) (.tmp 69) 22 3 rfl (G+1) i2 (.int .i64 0) 1 8 Tryz.underlying22 hi2 hw1 hw2 hw3 rfl (by decide) (.slice Ad LD.length cd) LD.length (LD.map (Value.int .i64)) rfl HVX3.out.rd ⟨p2,0,none⟩ [.int .i64 DD] rfl rfl (fun j u hu=>by rw[Addr.add_mid,Nat.zero_add,HP2X3.out.cell]; simpa using hu) (fun u hu=>by rw[List.mem_singleton.1 hu]; rfl) (by have:=HDL.out; unfold maxLen; omega) (by have:=HDL.out; omega) HVX3.out.size.1 (fun v9 w9 h2 h3 h4=>?_)
     obtain ⟨A9,c9,rfl⟩:=Xa8 h2;have hv:=HVX3.out.growD h3 h2 h4;have HVX4:=Lib.hid hv;have hHeld:=HSF.out _ HVX4.out.g;refine hK _ _ hHeld ?_;clear hK K hv h2 h3 h4 HVX3 HP2X3
     try simp only[PU]
     generalize w9=X4 at HVX4 hHeld ⊢;refine tkF 16 _ ?_;refine tkF 17 _ ?_;have r0:X4.cell? ⟨G,11,none⟩=some (.slice Ag gs.length cg):=HVX4.out.g.cell 11;have f0:=HVX4.out.g.free 11;have HVy:=Lib.hid (HVX4.out.put (i:=11) (u:=.slice A8 (gs.length+1) c8) (fg':=.slice A8 (gs.length+1) c8) (fr':=.slice none 0 0) (fd':=.slice Ad LD.length cd) rfl);refine Xb4 (i:=18) rfl (by kernel_rfl) (by rfl) (by rfl) (fun K hK=>?_)
     go_simp;refine hK _ _ ?_;clear hK K r0 f0 hHeld HVX4
     try simp only[PU]
     generalize (X4.setCell ⟨G,11,none⟩ (.slice A8 (gs.length+1) c8))=Y1 at HVy ⊢;refine Xb4 (i:=19) rfl (by kernel_rfl) (by rfl) (by rfl) (fun K hK=>?_)
     go_simp;refine hK _ _ ?_;clear hK K
     try simp only[PU]
     refine Xb4 (i:=20) rfl (by kernel_rfl) (by rfl) (by rfl) (fun K hK=>?_)
     go_simp;refine hK _ _ ?_;clear hK K
     try simp only[PU]
     have r0:Y1.cell? ⟨G,13,none⟩=some (.slice Ad LD.length cd):=HVy.out.g.cell 13;have f0:=HVy.out.g.free 13;have HVz:=Lib.hid (HVy.out.put (i:=13) (u:=.slice A9 (LD.length+1) c9) (fg':=.slice A8 (gs.length+1) c8) (fr':=.slice none 0 0) (fd':=.slice A9 (LD.length+1) c9) rfl);refine Xb4 (i:=21) rfl (by kernel_rfl) (by rfl) (by rfl) (fun K hK=>?_)
     go_simp;refine hK _ _ ?_;clear hK K r0 f0 HVy
     try simp only[PU]
     refine Xbd (by kernel_rfl) ?_
     clear HSF HSV;go_wp2;go_roundw
     case rel=>exact ⟨k+1,_,_,_,by omega,by go_num,by rw[HGP.out,HDP.out]; exact HVz.out⟩
     case measure=>simp[intOf]; omega
    ·go_simp;have hb:=(Below.refl X1.heap.size X1).alloc (Nat.le_refl _) (.cells #[(.int .i64 DD)] 3);have hv:=HVX1.out.below hb;have hp:Bk (X1.alloc (.cells #[(.int .i64 DD)] 3)) X1.heap.size 3 #[(.int .i64 DD)]:=Bk.new _ _ _;have HVX2:=Lib.hid hv;have HP2X2:=Lib.hid hp;have HBX2:=Lib.hid (Xa HBX1.out hb);have HP1X2:=Lib.hid (HP1X1.out.below hb HP1X1.out.lt);refine hK _ _ (HSF.out _ HVX2.out.g) ?_;clear hK K hb hv hp HVX1 HBX1 HP1X1
     try simp only[PU]
     generalize (X1.alloc (.cells #[(.int .i64 DD)] 3))=X2 at HVX2 HP2X2 HBX2 HP1X2 ⊢;generalize X1.heap.size=p2 at HP2X2 ⊢;refine Xaa (i:=8) rfl (by kernel_rfl) (by rfl) (fun K hK=>?_)
     refine Xbj (.tmp 60) (.tmp 62) 133 136 rfl (G+1) i1 (.slice none 0 0) 1 24 Tryz.underlying133 hi1 hy1 hy2 hy3 rfl (by decide) (.slice Ag gs.length cg) gs.length gs rfl HVX2.out.rg ⟨p1,0,none⟩ [(.slice A6 LS.length c6)] rfl rfl (fun j u hu=>by rw[Addr.add_mid,Nat.zero_add,HP1X2.out.cell]; simpa using hu) (fun u hu=>by rw[List.mem_singleton.1 hu]; rfl) (by have:=HGL.out; unfold maxLen; omega) (by have:=HGL.out; omega) HVX2.out.size.1 (fun v8 w8 h2 h3 h4=>?_)
     obtain ⟨A8,c8,rfl⟩:=Xa8 h2;have hv:=HVX2.out.growG h3 h2 h4 (HSV.out _ HBX2.out) HL6.out HLL.out (fun a hl ha=>⟨(HA7.out a hl ha).1,by have h5:=(HA7.out a hl ha).2.1; have h6:=HBX2.out.size; omega,(HA7.out a hl ha).2.2⟩)
     have hp2:=HP2X2.out.grown h3 (Xa1 HP2X2.out (by decide) HVX2.out.rg)
     have HVX3:=Lib.hid hv;have HP2X3:=Lib.hid hp2;refine hK _ _ (HSF.out _ HVX3.out.g) ?_;clear hK K hv h2 h3 h4 HVX2 HBX2 HP1X2 hp2 HP2X2
     try simp only[PU]
     generalize w8=X3 at HVX3 HP2X3 ⊢;refine Xaa (i:=15) rfl (by kernel_rfl) (by rfl) (fun K hK=>?_)
     refine Xbj (.tmp 67) (.tmp 69) 22 3 rfl (G+1) i2 (.int .i64 0) 1 8 Tryz.underlying22 hi2 hw1 hw2 hw3 rfl (by decide) (.slice Ad LD.length cd) LD.length (LD.map (Value.int .i64)) rfl HVX3.out.rd ⟨p2,0,none⟩ [.int .i64 DD] rfl rfl (fun j u hu=>by rw[Addr.add_mid,Nat.zero_add,HP2X3.out.cell]; simpa using hu) (fun u hu=>by rw[List.mem_singleton.1 hu]; rfl) (by have:=HDL.out; unfold maxLen; omega) (by have:=HDL.out; omega) HVX3.out.size.1 (fun v9 w9 h2 h3 h4=>?_)
     obtain ⟨A9,c9,rfl⟩:=Xa8 h2;have hv:=HVX3.out.growD h3 h2 h4;have HVX4:=Lib.hid hv;have hHeld:=HSF.out _ HVX4.out.g;refine hK _ _ hHeld ?_;clear hK K hv h2 h3 h4 HVX3 HP2X3
     try simp only[PU]
     generalize w9=X4 at HVX4 hHeld ⊢;refine tkF 16 _ ?_;refine tkF 17 _ ?_;have r0:X4.cell? ⟨G,11,none⟩=some (.slice Ag gs.length cg):=HVX4.out.g.cell 11;have f0:=HVX4.out.g.free 11;have HVy:=Lib.hid (HVX4.out.put (i:=11) (u:=.slice A8 (gs.length+1) c8) (fg':=.slice A8 (gs.length+1) c8) (fr':=.slice none 0 0) (fd':=.slice Ad LD.length cd) rfl);refine Xb4 (i:=18) rfl (by kernel_rfl) (by rfl) (by rfl) (fun K hK=>?_)
     go_simp;refine hK _ _ ?_;clear hK K r0 f0 hHeld HVX4
     try simp only[PU]
     generalize (X4.setCell ⟨G,11,none⟩ (.slice A8 (gs.length+1) c8))=Y1 at HVy ⊢;refine Xb4 (i:=19) rfl (by kernel_rfl) (by rfl) (by rfl) (fun K hK=>?_)
     go_simp;refine hK _ _ ?_;clear hK K
     try simp only[PU]
     refine Xb4 (i:=20) rfl (by kernel_rfl) (by rfl) (by rfl) (fun K hK=>?_)
     go_simp;refine hK _ _ ?_;clear hK K
     try simp only[PU]
     have r0:Y1.cell? ⟨G,13,none⟩=some (.slice Ad LD.length cd):=HVy.out.g.cell 13;have f0:=HVy.out.g.free 13;have HVz:=Lib.hid (HVy.out.put (i:=13) (u:=.slice A9 (LD.length+1) c9) (fg':=.slice A8 (gs.length+1) c8) (fr':=.slice none 0 0) (fd':=.slice A9 (LD.length+1) c9) rfl);refine Xb4 (i:=21) rfl (by kernel_rfl) (by rfl) (by rfl) (fun K hK=>?_)
     go_simp;refine hK _ _ ?_;clear hK K r0 f0 HVy
     try simp only[PU]
     refine Xbd (by kernel_rfl) ?_
     clear HSF HSV;go_wp2;go_roundw
     case rel=>exact ⟨k+1,_,_,_,by omega,by go_num,by rw[HGP.out,HDP.out]; exact HVz.out⟩
     case measure=>simp[intOf]; omega
   ·go_simp;have hb:=(Below.refl V.heap.size V).alloc (Nat.le_refl _) (.cells #[(.int .i64 DD)] 3);have hv:=HVX0.out.below hb;have hp:Bk (V.alloc (.cells #[(.int .i64 DD)] 3)) V.heap.size 3 #[(.int .i64 DD)]:=Bk.new _ _ _;have HVX1:=Lib.hid hv;have HP2X1:=Lib.hid hp;have HBX1:=Lib.hid (Xa HBX0.out hb);refine hK _ _ (HSF.out _ HVX1.out.g) ?_;clear hK K hb hv hp HVX0 HBX0
    try simp only[PU]
    generalize (V.alloc (.cells #[(.int .i64 DD)] 3))=X1 at HVX1 HP2X1 HBX1 ⊢;generalize V.heap.size=p2 at HP2X1 ⊢;refine Xaa (i:=7) rfl (by kernel_rfl) (by rfl) (fun K hK=>?_)
    go_simp;have hb:=(Below.refl X1.heap.size X1).alloc (Nat.le_refl _) (.cells #[(.slice A6 LS.length c6)] 136);have hv:=HVX1.out.below hb;have hp:Bk (X1.alloc (.cells #[(.slice A6 LS.length c6)] 136)) X1.heap.size 136 #[(.slice A6 LS.length c6)]:=Bk.new _ _ _;have HVX2:=Lib.hid hv;have HP1X2:=Lib.hid hp;have HBX2:=Lib.hid (Xa HBX1.out hb);have HP2X2:=Lib.hid (HP2X1.out.below hb HP2X1.out.lt);refine hK _ _ (HSF.out _ HVX2.out.g) ?_;clear hK K hb hv hp HVX1 HBX1 HP2X1
    try simp only[PU]
    generalize (X1.alloc (.cells #[(.slice A6 LS.length c6)] 136))=X2 at HVX2 HP1X2 HBX2 HP2X2 ⊢;generalize X1.heap.size=p1 at HP1X2 ⊢;refine Xaa (i:=8) rfl (by kernel_rfl) (by rfl) (fun K hK=>?_)
    refine Xbj (.tmp 60) (.tmp 62) 133 136 rfl (G+1) i1 (.slice none 0 0) 1 24 Tryz.underlying133 hi1 hy1 hy2 hy3 rfl (by decide) (.slice Ag gs.length cg) gs.length gs rfl HVX2.out.rg ⟨p1,0,none⟩ [(.slice A6 LS.length c6)] rfl rfl (fun j u hu=>by rw[Addr.add_mid,Nat.zero_add,HP1X2.out.cell]; simpa using hu) (fun u hu=>by rw[List.mem_singleton.1 hu]; rfl) (by have:=HGL.out; unfold maxLen; omega) (by have:=HGL.out; omega) HVX2.out.size.1 (fun v8 w8 h2 h3 h4=>?_)
    obtain ⟨A8,c8,rfl⟩:=Xa8 h2;have hv:=HVX2.out.growG h3 h2 h4 (HSV.out _ HBX2.out) HL6.out HLL.out (fun a hl ha=>⟨(HA7.out a hl ha).1,by have h5:=(HA7.out a hl ha).2.1; have h6:=HBX2.out.size; omega,(HA7.out a hl ha).2.2⟩)
    have hp2:=HP2X2.out.grown h3 (Xa1 HP2X2.out (by decide) HVX2.out.rg)
    have HVX3:=Lib.hid hv;have HP2X3:=Lib.hid hp2;refine hK _ _ (HSF.out _ HVX3.out.g) ?_;clear hK K hv h2 h3 h4 HVX2 HBX2 HP1X2 hp2 HP2X2
    try simp only[PU]
    generalize w8=X3 at HVX3 HP2X3 ⊢;refine Xaa (i:=15) rfl (by kernel_rfl) (by rfl) (fun K hK=>?_)
    refine Xbj (.tmp 67) (.tmp 69) 22 3 rfl (G+1) i2 (.int .i64 0) 1 8 Tryz.underlying22 hi2 hw1 hw2 hw3 rfl (by decide) (.slice Ad LD.length cd) LD.length (LD.map (Value.int .i64)) rfl HVX3.out.rd ⟨p2,0,none⟩ [.int .i64 DD] rfl rfl (fun j u hu=>by rw[Addr.add_mid,Nat.zero_add,HP2X3.out.cell]; simpa using hu) (fun u hu=>by rw[List.mem_singleton.1 hu]; rfl) (by have:=HDL.out; unfold maxLen; omega) (by have:=HDL.out; omega) HVX3.out.size.1 (fun v9 w9 h2 h3 h4=>?_)
    obtain ⟨A9,c9,rfl⟩:=Xa8 h2;have hv:=HVX3.out.growD h3 h2 h4;have HVX4:=Lib.hid hv;have hHeld:=HSF.out _ HVX4.out.g;refine hK _ _ hHeld ?_;clear hK K hv h2 h3 h4 HVX3 HP2X3
    try simp only[PU]
    generalize w9=X4 at HVX4 hHeld ⊢;refine tkF 16 _ ?_;refine tkF 17 _ ?_;have r0:X4.cell? ⟨G,11,none⟩=some (.slice Ag gs.length cg):=HVX4.out.g.cell 11;have f0:=HVX4.out.g.free 11;have HVy:=Lib.hid (HVX4.out.put (i:=11) (u:=.slice A8 (gs.length+1) c8) (fg':=.slice A8 (gs.length+1) c8) (fr':=.slice none 0 0) (fd':=.slice Ad LD.length cd) rfl);refine Xb4 (i:=18) rfl (by kernel_rfl) (by rfl) (by rfl) (fun K hK=>?_)
    go_simp;refine hK _ _ ?_;clear hK K r0 f0 hHeld HVX4
    try simp only[PU]
    generalize (X4.setCell ⟨G,11,none⟩ (.slice A8 (gs.length+1) c8))=Y1 at HVy ⊢;refine Xb4 (i:=19) rfl (by kernel_rfl) (by rfl) (by rfl) (fun K hK=>?_)
    go_simp;refine hK _ _ ?_;clear hK K
    try simp only[PU]
    refine Xb4 (i:=20) rfl (by kernel_rfl) (by rfl) (by rfl) (fun K hK=>?_)
    go_simp;refine hK _ _ ?_;clear hK K
    try simp only[PU]
    have r0:Y1.cell? ⟨G,13,none⟩=some (.slice Ad LD.length cd):=HVy.out.g.cell 13;have f0:=HVy.out.g.free 13;have HVz:=Lib.hid (HVy.out.put (i:=13) (u:=.slice A9 (LD.length+1) c9) (fg':=.slice A8 (gs.length+1) c8) (fr':=.slice none 0 0) (fd':=.slice A9 (LD.length+1) c9) rfl);refine Xb4 (i:=21) rfl (by kernel_rfl) (by rfl) (by rfl) (fun K hK=>?_)
    go_simp;refine hK _ _ ?_;clear hK K r0 f0 HVy
    try simp only[PU]
    refine Xbd (by kernel_rfl) ?_
    clear HSF HSV;go_wp2;go_roundw
    case rel=>exact ⟨k+1,_,_,_,by omega,by go_num,by rw[HGP.out,HDP.out]; exact HVz.out⟩
    case measure=>simp[intOf]; omega
  ·have hkk:k=t.p.c.length:=by omega
   subst hkk;have hv0:=HV.out;rw[List.take_of_length_le (by unfold Xb6; simp),List.take_of_length_le (by simp)] at hv0
   have HV0:=Lib.hid hv0;have a0:=HV0.out.tb.n0;clear hv0 HV;go_wp2_with fail;clear a0;go_loopw [13,14,15,80] (fun _ _ _ i wr => ∃(n:Nat) (vr:Value) (rs:List Value),n≤t.p.q.length∧i = .int .i64 n∧BdV n0 G w Aq cq Ac cc B cb H ch t q vg vr vd vg vr vd gs rs (Xb6 t) ((Xak t q.size).take n) (t.p.c.map fun c=>dur c q.size) wr) (fun _ _ _ i _=>t.p.q.length - (intOf i).toNat)
   case atStart=>exact ⟨0,_, [],Nat.zero_le _,rfl,HV0.out⟩
   case round =>
    obtain ⟨n,vr,rs,hn,rfl,hv⟩:=hrel;have HV:=Lib.hid hv;clear hv HV0
    by_cases hlt:n<t.p.q.length
    ·obtain ⟨qn,hqn⟩:∃qn,t.p.q[n]? = some qn:=⟨_,List.getElem?_eq_getElem hlt⟩;have HRP:Hid ((Xak t q.size).take (n+1)=(Xak t q.size).take n ++ [Xc qn q.size (Xae t.h n)]):=take_snoc (by unfold Xak; rw[List.getElem?_map,List.getElem?_zipIdx,hqn]; simp)
     have HLL:Hid ((Xc qn q.size (Xae t.h n)).length≤100000):=by
      have h1:=Xh0 (Xli (p:=t.p) HOK.out.2.2.2.1) (n:Int) qn q.size;have h2:(t.h.filter fun h:Hld=>decide (h.node=(n:Int))).length≤t.h.length:=List.length_filter_le _ _;have h3:=HOK.out.2.2.1;show _≤_;omega
     have HFR:=Lib.hid (fun w' hb=>Xpn Aq cq Ac cc t.p H ch t.h n q.size qn w' (HT.out.below (w':=w') hb).p (HT.out.below (w':=w') hb).h ⟨HOK.out.1,HOK.out.2.2⟩ hqn HQ.out.2.2.2.2.1);obtain ⟨a0,a1⟩:=HV.out.tb.c2;have a3:=HV.out.tb.n3;have b2:=HV.out.qb.n2;have hn64:(n:Int)≤16:=by have:=HOK.out.1.1.2.1; omega
     have hn0':(0:Int)≤(n:Int):=by omega
     have hn1:(n:Int)<(t.p.q.length:Int):=by omega
     have HLT:=Lib.hid (fun r e=>(Xbp HV.out.rg r e).2);have HLT2:=Lib.hid (fun r e=>(Xbp HV.out.rr r e).2);have HLT3:=Lib.hid (fun r e=>(Xbp HV.out.rd r e).2);have HZ:Hid (G+1≤wr.heap.size∧n0+2≤G):=HV.out.size;clear hqn;go_wp2_with fail;clear a0 a1 a3 b2;refine (HFR.out wr (by rw[hn0]; exact HV.out.be)).mono ?_
     rintro e w6 ⟨A6,c6,rfl,hs6,hc6,hba6,hb6⟩;have HV6:=Lib.hid (HV.out.below hb6);have HS6:=Lib.hid hs6;have HL6:=Lib.hid hc6;generalize Xc qn q.size (Xae t.h n)=LS at HRP HS6 HL6 HLL hs6 ⊢;have HA6:Hid (∀a,LS ≠ [] → A6=some a→G+1≤a.block∧a.block<w6.heap.size ∧ ∀v ∈ [vg,vr,vd],v.ownBlock ≠ some a.block):=fun a hl ha=>by
      have h1:=hba6 a ha;have h3:=HZ.out;refine ⟨by omega,?_,fun v hv e=>?_⟩
      ·cases hL:LS with
       | nil=>exact absurd hL hl
       | cons s l =>
         obtain ⟨b,off,e,hr⟩:=HS6.out 0 s (by rw[hL]; rfl)
         rw[ha] at e;cases e;exact World.block_lt_of_cell? _ _ (hr 0 _ rfl)
      ·simp only[List.mem_cons,List.not_mem_nil,or_false] at hv;rcases hv with rfl | rfl | rfl
       ·have:=HLT.out _ e; omega
       ·have:=HLT2.out _ e; omega
       ·have:=HLT3.out _ e; omega
     clear hb6 hs6 hc6 hba6 HFR HV;obtain ⟨Ar,cr,rfl⟩:=Xa8 HV6.out.rr;obtain ⟨i1,hi1,hy1,hy2,hy3⟩:=info_parts Xsw;have HRL:Hid (rs.length≤64):=by
      have h1:=HV6.out.ir.1;have h2:=HOK.out.1.1.2.1;show _≤_;rw[h1,List.length_take];omega
     generalize (Xak t q.size).take n=LR at HV6 HRP ⊢;have HB7:Hid (Below w6.heap.size w6 (w6.alloc (.cells #[.slice A6 LS.length c6] 136))):=(Below.refl _ _).alloc (Nat.le_refl _) _;have HV7:=Lib.hid (HV6.out.below HB7.out);have r0:w6.cell? ⟨G,12,none⟩=some (.slice Ar rs.length cr):=HV6.out.g.cell 12;go_wp2_with (at_builtin; refine wpList_append_own_at _ rfl _ _ 133 rfl (G+1) 136 i1 (.slice none 0 0) 1 24 Tryz.underlying133 hi1 hy1 hy2 hy3 rfl (by decide) _ _ _ rfl HV7.out.rr ⟨_,0,none⟩ 1 1 [.slice A6 LS.length c6] rfl rfl ?d1 ?d2 ?d3 ?d4 ?d5 ?_)
     case d1=>exact fun j u hu=>by rw[Addr.add_mid,Nat.zero_add]; exact Xcj _ [.slice A6 LS.length c6] _ (by simp) j u hu
     case d2=>exact fun u hu=>by rw[List.mem_singleton.1 hu]; rfl
     case d3=>have:=HRL.out; unfold maxLen; omega
     case d4=>have:=HRL.out; omega
     case d5=>exact HV7.out.size.1
     intro v8 w8 h2 h3 _ h4;obtain ⟨A8,c8,rfl⟩:=Xa8 h2;have hv:=HV7.out.growR h3 h2 (h4.imp id fun e=>e.trans (by simp)) (HS6.out.below HB7.out) HL6.out HLL.out (fun a hl ha=>⟨(HA6.out a hl ha).1,by have h5:=(HA6.out a hl ha).2.1; have h6:=HB7.out.size; omega,(HA6.out a hl ha).2.2⟩)
     have HV8:=Lib.hid hv;have r1:w8.cell? ⟨G,12,none⟩=some (.slice Ar rs.length cr):=HV8.out.g.cell 12;have f1:=HV8.out.g.free 12;have HV9:=Lib.hid (HV8.out.put (i:=12) (u:=.slice A8 (rs.length+1) c8) (fg':=vg) (fr':=.slice A8 (rs.length+1) c8) (fd':=vd) rfl);clear h2 h3 h4 hv r0 HV6 HV7 HB7;go_wp2;go_roundw
     case rel=>exact ⟨n+1,_,_,by omega,by go_num,by rw[HRP.out]; exact HV9.out⟩
     case measure=>simp[intOf]; omega
    ·have hnn:n=t.p.q.length:=by omega
     subst hnn;have hv0:=HV.out;rw[List.take_of_length_le (by unfold Xak; simp)] at hv0
     have HF:=Lib.hid (hv0.gat (HT.out.below (w':=wr) (by rw[hn0]; exact hv0.be)) HOK.out HQ.out)
     have HZ:Hid (G+1≤wr.heap.size∧n0+2≤G):=HV.out.size;have HBE:=Lib.hid hv0.be;clear hv0 HV;go_wp2;go_ret2;exact ⟨G,rfl,HF.out,by have:=HZ.out; omega,by rw[hn0]; exact HBE.out⟩
end Go.Proofs.YtebkgbmijocdjaaGreat.Tp
