/- A part of the proof for the ledger. No condition beyond those that each theorem states. -/
import Derived.Test.YtebkgbmijocdjaaGreatZ18
set_option maxHeartbeats 32000000
set_option maxRecDepth 100000
set_option linter.unusedVariables false
set_option linter.unusedSimpArgs false
namespace Go.Proofs.YtebkgbmijocdjaaGreat.Tp
open Go Go.RowKit Go.Lib Go.Proofs
theorem Xsn:Sort.SWO (ltOf bkC):=Xpc 2 (fun x => [x.ct,x.beg]) (fun _=>rfl) bkC (fun _ _=>rfl)
end Go.Proofs.YtebkgbmijocdjaaGreat.Tp
namespace Go.Proofs.YtebkgbmijocdjaaGreat.Tp
open Go Go.RowKit
theorem Xp6 {p:Pln}{q:Rq}(hq:RqOK p q):∀ {l:List Hop}{n a:Int},Xbw p q n a l → ∀h ∈ l,Xi8 p ⟨h.ct,h.beg,h.fin,0⟩
 | [],_,_,_,h,hm=>by simp at hm
 | x :: l,n,a,⟨c,hc,_,_,_,h1,h2,h3,hw⟩,h,hm=>by
   rcases List.mem_cons.1 hm with rfl | e
   ·have hct:=(hq.1.2.2.1 c (List.mem_of_getElem? hc.2)).1;have hd:=Xdw hct hq.2.2.2.2.1.1;have e1:h.fin=h.beg+dur c q.size:=by rw[h3]
    exact ⟨⟨by simp,by simp⟩,hc.1,c,hc.2,h1,by show h.beg<h.fin; omega,by show h.fin≤c.fin; omega⟩
   ·exact Xp6 hq hw h e
end Go.Proofs.YtebkgbmijocdjaaGreat.Tp
namespace Go.Proofs.YtebkgbmijocdjaaGreat.Tp
open Go Go.RowKit Go.Lib Go.Proofs
theorem Xsg (a b:Bkg)(w:World):Calls Tryz.prog 160 #[.agg #[.int .i64 a.ct,.int .i64 a.beg,.int .i64 a.fin,.int .i64 a.tick],.agg #[.int .i64 b.ct,.int .i64 b.beg,.int .i64 b.fin,.int .i64 b.tick]] w fun e w' => e = .returned (.int .i64 (bkC a b))∧BelD w w':=by
 have HB0:Hid (BelD w ((w.alloc (.cells (bkA a) 95)).alloc (.cells (bkA b) 95))):=((BelD.refl _).alloc _).alloc _;have HK:=Lib.hid ((Bk.new w 95 (bkA a)).alloc (.cells (bkA b) 95));have HL:Hid (Bk ((w.alloc (.cells (bkA a) 95)).alloc (.cells (bkA b) 95)) (w.heap.size+1) 95 (bkA b)):=by
  have h:=Bk.new (w.alloc (.cells (bkA a) 95)) 95 (bkA b)
  rwa [World.size_alloc] at h
 go_enter Tryz.func160,Tryz.ntmps160;go_wp2_with fail;generalize (w.alloc (.cells (bkA a) 95)).alloc (.cells (bkA b) 95)=W at HB0 HK HL ⊢;generalize w.heap.size=g at HK HL ⊢;have HD:Hid (∀w',BelD W w' → (w'.cell? ⟨g,0,none⟩=some (.int .i64 a.ct)∧w'.cell? ⟨g,1,none⟩=some (.int .i64 a.beg))∧w'.cell? ⟨g+1,0,none⟩=some (.int .i64 b.ct)∧w'.cell? ⟨g+1,1,none⟩=some (.int .i64 b.beg)):=fun w' hb=>by
  have h1:=HK.out.below hb.1 HK.out.lt;have h2:=HL.out.below hb.1 HL.out.lt;exact ⟨⟨h1.cell 0,h1.cell 1⟩,h2.cell 0,h2.cell 1⟩
 go_region_held3 (fun w' => ((w'.cell? ⟨g,0,none⟩=some (.int .i64 a.ct)∧w'.cell? ⟨g,1,none⟩=some (.int .i64 a.beg))∧w'.cell? ⟨g+1,0,none⟩=some (.int .i64 b.ct)∧w'.cell? ⟨g+1,1,none⟩=some (.int .i64 b.beg))∧Hid (BelD W w')) (((try go_split_ands); first | exact Xb7 HD (BelD.refl _).drew | exact Xek HD (by assumption) hb4 | exact Xb7 HD (Xnk (by assumption))))
  ((first
    | (go_at_call 84
       refine (Xbq _ _ _).mono ?_;rintro e w4 ⟨rfl,hw4⟩;have hb4:=Xce hw4;clear hw4)
    | (go_at_call 83
       refine (Xh4 _ _ [cmpI a.ct b.ct,cmpI a.beg b.beg] _ rfl (by simp) ?_).mono ?_
       ·exact Xdn _ [cmpI a.ct b.ct,cmpI a.beg b.beg] _
       rintro e w4 ⟨rfl,hw4⟩;have hb4:=Xce hw4;clear hw4)))
 have HBF:Hid (BelD W w4):=by (try go_split_ands); assumption
 go_wp2;go_ret;exact ⟨rfl,HB0.out.trans HBF.out⟩
theorem Xs1 (a b:Hld)(w:World):Calls Tryz.prog 162 #[.agg #[.int .i64 a.node,.int .i64 a.frm,.int .i64 a.til,.int .i64 a.size,.int .i64 a.tick],.agg #[.int .i64 b.node,.int .i64 b.frm,.int .i64 b.til,.int .i64 b.size,.int .i64 b.tick]] w fun e w' => e = .returned (.int .i64 (hdC a b))∧BelD w w':=by
 have HB0:Hid (BelD w ((w.alloc (.cells (hdA a) 99)).alloc (.cells (hdA b) 99))):=((BelD.refl _).alloc _).alloc _;have HK:=Lib.hid ((Bk.new w 99 (hdA a)).alloc (.cells (hdA b) 99));have HL:Hid (Bk ((w.alloc (.cells (hdA a) 99)).alloc (.cells (hdA b) 99)) (w.heap.size+1) 99 (hdA b)):=by
  have h:=Bk.new (w.alloc (.cells (hdA a) 99)) 99 (hdA b)
  rwa [World.size_alloc] at h
 go_enter Tryz.func162,Tryz.ntmps162;go_wp2_with fail;generalize (w.alloc (.cells (hdA a) 99)).alloc (.cells (hdA b) 99)=W at HB0 HK HL ⊢;generalize w.heap.size=g at HK HL ⊢;have HD:Hid (∀w',BelD W w' → (w'.cell? ⟨g,0,none⟩=some (.int .i64 a.node)∧w'.cell? ⟨g,1,none⟩=some (.int .i64 a.frm)∧w'.cell? ⟨g,2,none⟩=some (.int .i64 a.til)∧w'.cell? ⟨g,3,none⟩=some (.int .i64 a.size)∧w'.cell? ⟨g,4,none⟩=some (.int .i64 a.tick))∧w'.cell? ⟨g+1,0,none⟩=some (.int .i64 b.node)∧w'.cell? ⟨g+1,1,none⟩=some (.int .i64 b.frm)∧w'.cell? ⟨g+1,2,none⟩=some (.int .i64 b.til)∧w'.cell? ⟨g+1,3,none⟩=some (.int .i64 b.size)∧w'.cell? ⟨g+1,4,none⟩=some (.int .i64 b.tick)):=fun w' hb=>by
  have h1:=HK.out.below hb.1 HK.out.lt;have h2:=HL.out.below hb.1 HL.out.lt;exact ⟨⟨h1.cell 0,h1.cell 1,h1.cell 2,h1.cell 3,h1.cell 4⟩,h2.cell 0,h2.cell 1,h2.cell 2,h2.cell 3,h2.cell 4⟩
 go_region_held3 (fun w' => ((w'.cell? ⟨g,0,none⟩=some (.int .i64 a.node)∧w'.cell? ⟨g,1,none⟩=some (.int .i64 a.frm)∧w'.cell? ⟨g,2,none⟩=some (.int .i64 a.til)∧w'.cell? ⟨g,3,none⟩=some (.int .i64 a.size)∧w'.cell? ⟨g,4,none⟩=some (.int .i64 a.tick))∧w'.cell? ⟨g+1,0,none⟩=some (.int .i64 b.node)∧w'.cell? ⟨g+1,1,none⟩=some (.int .i64 b.frm)∧w'.cell? ⟨g+1,2,none⟩=some (.int .i64 b.til)∧w'.cell? ⟨g+1,3,none⟩=some (.int .i64 b.size)∧w'.cell? ⟨g+1,4,none⟩=some (.int .i64 b.tick))∧Hid (BelD W w')) (((try go_split_ands); first | exact Xb7 HD (BelD.refl _).drew | exact Xek HD (by assumption) hb4 | exact Xb7 HD (Xnk (by assumption))))
  ((first
    | (go_at_call 84
       refine (Xbq _ _ _).mono ?_;rintro e w4 ⟨rfl,hw4⟩;have hb4:=Xce hw4;clear hw4)
    | (go_at_call 83
       refine (Xh4 _ _ [cmpI a.node b.node,cmpI a.frm b.frm,cmpI a.til b.til,cmpI a.tick b.tick,cmpI a.size b.size] _ rfl (by simp) ?_).mono ?_
       ·exact Xdn _ [cmpI a.node b.node,cmpI a.frm b.frm,cmpI a.til b.til,cmpI a.tick b.tick,cmpI a.size b.size] _
       rintro e w4 ⟨rfl,hw4⟩;have hb4:=Xce hw4;clear hw4)))
 have HBF:Hid (BelD W w4):=by (try go_split_ands); assumption
 go_wp2;go_ret;exact ⟨rfl,HB0.out.trans HBF.out⟩
def Xeo {α:Type}(E:Enc α)(cf:α → α → Int)(t:TypeId)(base:Nat)(v:Value)(l:List α)(w:World)(e:Ending)(w':World):Prop :=
 e = .returned (.tuple #[]) ∧ ∃l':List α,l'.Perm l∧(l'.Pairwise fun a b=>ltOf cf b a=false)∧w'.ownsRow base t E.k v l'.length (l'.flatMap E.f)∧w.grownBy w' v.ownBlock
theorem Xfy {P:Program} {α:Type} [Inhabited α](E:Enc α)(hk:0<E.k)(cf:α → α → Int)(t:TypeId)(fs g:Nat)(base:Nat)(v:Value)(l:List α)(w:World)(hR:w.ownsRow base t E.k v l.length (l.flatMap E.f))(hN:Calls P fs #[.slice none 0 0,.func (.func g) #[] #[]] w fun e w' => e = .returned (.tuple #[])∧w' = w)
  (hS:∀(blk cap:Nat),Sort.HoldsK E.f E.k w blk 0 l.toArray→blk<w.heap.size→Calls P fs #[.slice (some ⟨blk,0,none⟩) l.toArray.size cap,.func (.func g) #[] #[]] w fun e w' => e = .returned (.tuple #[]) ∧ ∃(d':Array α),Sort.PermIn 0 l.toArray.size l.toArray d' ∧ Sort.SortedIn (ltOf cf) 0 l.toArray.size d' ∧ SWK E.f E.k w blk 0 d' w') :
  Calls P fs #[v,.func (.func g) #[] #[]] w (Xeo E cf t base v l w):=by
 obtain ⟨hxl,h⟩:=hR;rcases h with ⟨rfl,h0⟩ | ⟨b,cap,cur,rfl,hbg,hg,hnc,hcm,hcs,htk⟩
 ·have hl:=List.eq_nil_of_length_eq_zero h0;subst hl;refine hN.mono ?_;rintro e w' ⟨rfl,rfl⟩;exact ⟨rfl, [],List.Perm.refl _,List.Pairwise.nil,World.ownsRow_nil _ _ _ _,grown_below (Below.refl _ _) _⟩
 ·have hF:=Xgs E hk l;have hH:Sort.HoldsK E.f E.k w b 0 l.toArray:=by
   unfold Sort.HoldsK;rw[hF];intro j hj;have hj':j<(l.flatMap E.f).length:=by simpa using hj
   have hb:Bk w b t cur:=hg;rw[Nat.zero_add];refine ⟨?_,hb.free _⟩;have h1:(cur.toList.take (l.length * E.k))[j]? = (l.flatMap E.f)[j]? := by rw[htk]
   rw[Xan] at hj';rw[List.getElem?_take,if_pos hj',Array.getElem?_toList] at h1;have hj2:j<(l.flatMap E.f).length:=by rw[Xan]; exact hj'
   rw[hb.cell,h1,List.getElem?_eq_getElem hj2,getElem!_pos (l.flatMap E.f).toArray j hj,List.getElem_toArray]
   rfl
  have hc:=hS b cap hH (Array.getElem?_eq_some_iff.1 hg).1;simp only[List.size_toArray] at hc;refine hc.mono ?_;rintro e w' ⟨rfl,d',hp,hso,n,os,rfl⟩;have hsz:d'.size=l.length:=by simpa using hp.1
  have hpl:d'.toList.Perm l:=by
   have h3:=hp.2.2;have h4:(d'.extract 0 l.length).toList=d'.toList:=by rw[←hsz,Array.extract_size]
   rw[h4] at h3;simpa using h3
  have hpw:d'.toList.Pairwise fun a b=>ltOf cf b a=false:=by
   rw[List.pairwise_iff_getElem];intro i j hi hj hij;have h9:=hso i j (Nat.zero_le _) hij (by simpa[hsz] using hj)
   rw[getElem!_pos d' j (by simpa using hj),getElem!_pos d' i (by simpa using hi)] at h9
   simpa using h9
  obtain ⟨h1,h2,h3⟩:=Xfd id w b 0 n (Sort.flatK E.f E.k d') os hg;have hF':Sort.flatK E.f E.k d' = (d'.toList.flatMap E.f).toArray:=by
   have:=Xgs E hk d'.toList
   rwa [Array.toArray_toList] at this
  refine ⟨rfl,d'.toList,hpl,hpw,⟨Xan _,.inr ⟨b,cap,_,by rw[hpl.length_eq],hbg,h1,by rw[hpl.length_eq]; exact hnc,hcm,by simp[Sort.putCells,hcs],?_⟩⟩,⟨rfl,rfl,rfl,h3,fun k hk2 hne2=>h2 k hk2 (fun e=>hne2 (by rw[e]; rfl))⟩⟩
  rw[hF'];have hcl:l.length * E.k≤cur.size:=by
   have:=congrArg List.length htk;rw[Xan,List.length_take] at this;have h5:cur.toList.length=cur.size:=Array.length_toList;omega
  apply List.ext_getElem?;intro j;rw[List.getElem?_take,hpl.length_eq]
  by_cases hj:j<l.length * E.k
  ·rw[if_pos hj,Array.getElem?_toList];have hj2:j<(d'.toList.flatMap E.f).length:=by rw[Xan,hpl.length_eq]; exact hj
   have hjc:j<cur.size:=by omega
   rw[List.getElem?_eq_getElem hj2];simp only[Sort.putCells,Array.getElem?_mapIdx,Array.getElem?_eq_getElem hjc,Option.map_some,Nat.zero_le,true_and,Nat.zero_add,List.size_toArray,hj2,if_true,id_eq,Nat.sub_zero];rw[getElem!_pos (d'.toList.flatMap E.f).toArray j (by simpa using hj2)]
   simp
  ·rw[if_neg hj,List.getElem?_eq_none (by rw[Xan,hpl.length_eq]; omega)]
theorem Xqg (A:Option Addr)(n c:Nat)(f:Value)(w:World):Calls Tryz.prog 190 #[.slice A n c,.int .i64 0,.int .i64 0,f] w fun e w' => e = .returned (.tuple #[])∧w' = w:=by
 go_enter Tryz.func190,Tryz.ntmps190;go_wp2;go_loopw [8,9] (fun i _ wr=>i = .int .i64 1∧wr=w) (fun _ _ _=>0)
 case atStart=>exact ⟨rfl,rfl⟩
 case round =>
  obtain ⟨rfl,rfl⟩:=hrel;go_wp2;go_end0;exact ⟨rfl,rfl⟩
theorem Xj2 (A:Option Addr)(c:Nat)(f:Value)(w:World):Calls Tryz.prog 147 #[.slice A 0 c,.int .i64 0,f] w fun e w' => e = .returned (.tuple #[])∧w' = w:=by
 go_enter Tryz.func147,Tryz.ntmps147;go_wp2_with fail;go_loop [7,8] (fun a b=>a = .int .i64 0∧b = .int .i64 20) (fun _ _=>0)
 case atStart=>exact ⟨rfl,rfl⟩
 case round =>
  obtain ⟨rfl,rfl⟩:=hrel;go_wp2_with (go_at_call 190; refine (Xqg A 0 c f w).mono ?_; rintro e w' ⟨rfl,rfl⟩);go_loop [6] (fun a=>a = .int .i64 20) (fun _=>0)
  case atStart=>rfl
  case round =>
   obtain rfl:=hrel;go_wp2;go_end0;exact ⟨rfl,rfl⟩
theorem Xga (A:Option Addr)(c:Nat)(f:Value)(w:World):Calls Tryz.prog 85 #[.slice A 0 c,f] w fun e w' => e = .returned (.tuple #[])∧w' = w:=by
 go_enter Tryz.func85,Tryz.ntmps85;go_wp2_with fail;refine (Xj2 A c f w).mono ?_;rintro e w' ⟨rfl,rfl⟩;go_wp2;go_end0;exact ⟨rfl,rfl⟩
theorem Xgb [Inhabited Bkg](cf:Bkg→Bkg→Int)(hw:Sort.SWO (ltOf cf))(g:Nat)(blk cap:Nat)(d0:Array Bkg)(w0:World)
  (eg:∀args w,(callFunc g args).run Tryz.prog w = .ok (.enter g args) w) (hC:CmpLays Tryz.prog g #[] bkE.f bkE.k cf blk 0 d0.size w0) (R:RowK bkE.f bkE.k w0 blk 0 d0) (hsz:d0.size≤1000000000) :
  Calls Tryz.prog 85 #[.slice (some ⟨blk,0,none⟩) d0.size cap,.func (.func g) #[] #[]] w0 fun e w' => e = .returned (.tuple #[]) ∧ ∃d',Sort.PermIn 0 d0.size d0 d' ∧ Sort.SortedIn (ltOf cf) 0 d0.size d' ∧ SWK bkE.f bkE.k w0 blk 0 d' w':=by
 have HC:=Lib.hid (Xpi cf hw g #[] blk 0 cap d0 w0 eg hC R hsz);clear hC R eg hw;go_enter Tryz.func85,Tryz.ntmps85;go_wp2_with fail;refine HC.out.mono ?_;rintro e w' ⟨rfl,d',hp,hs,hk⟩;have HP:=Lib.hid hp;have HSO:=Lib.hid hs;have HK:=Lib.hid hk;clear hp hs hk;go_wp2;go_end0;exact ⟨rfl,d',HP.out,HSO.out,HK.out⟩
theorem Xqf (A:Option Addr)(n c:Nat)(f:Value)(w:World):Calls Tryz.prog 182 #[.slice A n c,.int .i64 0,.int .i64 0,f] w fun e w' => e = .returned (.tuple #[])∧w' = w:=by
 go_enter Tryz.func182,Tryz.ntmps182;go_wp2;go_loopw [8,9] (fun i _ wr=>i = .int .i64 1∧wr=w) (fun _ _ _=>0)
 case atStart=>exact ⟨rfl,rfl⟩
 case round =>
  obtain ⟨rfl,rfl⟩:=hrel;go_wp2;go_end0;exact ⟨rfl,rfl⟩
theorem Xj1 (A:Option Addr)(c:Nat)(f:Value)(w:World):Calls Tryz.prog 204 #[.slice A 0 c,.int .i64 0,f] w fun e w' => e = .returned (.tuple #[])∧w' = w:=by
 go_enter Tryz.func204,Tryz.ntmps204;go_wp2_with fail;go_loop [7,8] (fun a b=>a = .int .i64 0∧b = .int .i64 20) (fun _ _=>0)
 case atStart=>exact ⟨rfl,rfl⟩
 case round =>
  obtain ⟨rfl,rfl⟩:=hrel;go_wp2_with (go_at_call 182; refine (Xqf A 0 c f w).mono ?_; rintro e w' ⟨rfl,rfl⟩);go_loop [6] (fun a=>a = .int .i64 20) (fun _=>0)
  case atStart=>rfl
  case round =>
   obtain rfl:=hrel;go_wp2;go_end0;exact ⟨rfl,rfl⟩
theorem Xkk (A:Option Addr)(c:Nat)(f:Value)(w:World):Calls Tryz.prog 161 #[.slice A 0 c,f] w fun e w' => e = .returned (.tuple #[])∧w' = w:=by
 go_enter Tryz.func161,Tryz.ntmps161;go_wp2_with fail;refine (Xj1 A c f w).mono ?_;rintro e w' ⟨rfl,rfl⟩;go_wp2;go_end0;exact ⟨rfl,rfl⟩
theorem Xkl [Inhabited Hld](cf:Hld→Hld→Int)(hw:Sort.SWO (ltOf cf))(g:Nat)(blk cap:Nat)(d0:Array Hld)(w0:World)
  (eg:∀args w,(callFunc g args).run Tryz.prog w = .ok (.enter g args) w) (hC:CmpLays Tryz.prog g #[] hdE.f hdE.k cf blk 0 d0.size w0) (R:RowK hdE.f hdE.k w0 blk 0 d0) (hsz:d0.size≤1000000000) :
  Calls Tryz.prog 161 #[.slice (some ⟨blk,0,none⟩) d0.size cap,.func (.func g) #[] #[]] w0 fun e w' => e = .returned (.tuple #[]) ∧ ∃d',Sort.PermIn 0 d0.size d0 d' ∧ Sort.SortedIn (ltOf cf) 0 d0.size d' ∧ SWK hdE.f hdE.k w0 blk 0 d' w':=by
 have HC:=Lib.hid (Xph cf hw g #[] blk 0 cap d0 w0 eg hC R hsz);clear hC R eg hw;go_enter Tryz.func161,Tryz.ntmps161;go_wp2_with fail;refine HC.out.mono ?_;rintro e w' ⟨rfl,d',hp,hs,hk⟩;have HP:=Lib.hid hp;have HSO:=Lib.hid hs;have HK:=Lib.hid hk;clear hp hs hk;go_wp2;go_end0;exact ⟨rfl,d',HP.out,HSO.out,HK.out⟩
theorem Xkq (base:Nat)(v:Value)(l:List Bkg)(w:World)(hR:w.ownsRow base 95 bkE.k v l.length (l.flatMap bkE.f))(hn:l.length≤1000000) :
  Calls Tryz.prog 85 #[v,.func (.func 86) #[] #[]] w (Xeo bkE bkC 95 base v l w):=by
 letI:Inhabited Bkg:=⟨⟨0,0,0,0⟩⟩
 refine Xfy bkE (by decide) bkC _ _ _ base v l w hR (Xga none 0 _ w) fun blk cap hH hb=>?_
 refine Xgb bkC Xsn _ blk cap l.toArray w (enters_of Tryz.func86 (by kernel_rfl) rfl) (fun m os dk _ x y=>?_) ⟨bkE.len,bkE.one,hH,hb⟩ (by simp; omega)
 refine (Xsf x y _).mono ?_;rintro e w' ⟨rfl,h⟩;exact ⟨rfl,h.grows⟩
theorem Xkr (base:Nat)(v:Value)(l:List Bkg)(w:World)(hR:w.ownsRow base 95 bkE.k v l.length (l.flatMap bkE.f))(hn:l.length≤1000000) :
  Calls Tryz.prog 85 #[v,.func (.func 160) #[] #[]] w (Xeo bkE bkC 95 base v l w):=by
 letI:Inhabited Bkg:=⟨⟨0,0,0,0⟩⟩
 refine Xfy bkE (by decide) bkC _ _ _ base v l w hR (Xga none 0 _ w) fun blk cap hH hb=>?_
 refine Xgb bkC Xsn _ blk cap l.toArray w (enters_of Tryz.func160 (by kernel_rfl) rfl) (fun m os dk _ x y=>?_) ⟨bkE.len,bkE.one,hH,hb⟩ (by simp; omega)
 refine (Xsg x y _).mono ?_;rintro e w' ⟨rfl,h⟩;exact ⟨rfl,h.grows⟩
theorem Xkp (base:Nat)(v:Value)(l:List Hld)(w:World)(hR:w.ownsRow base 99 hdE.k v l.length (l.flatMap hdE.f))(hn:l.length≤1000000) :
  Calls Tryz.prog 161 #[v,.func (.func 162) #[] #[]] w (Xeo hdE hdC 99 base v l w):=by
 letI:Inhabited Hld:=⟨⟨0,0,0,0,0⟩⟩
 refine Xfy hdE (by decide) hdC _ _ _ base v l w hR (Xkk none 0 _ w) fun blk cap hH hb=>?_
 refine Xkl hdC Xt7 _ blk cap l.toArray w (enters_of Tryz.func162 (by kernel_rfl) rfl) (fun m os dk _ x y=>?_) ⟨hdE.len,hdE.one,hH,hb⟩ (by simp; omega)
 refine (Xs1 x y _).mono ?_;rintro e w' ⟨rfl,h⟩;exact ⟨rfl,h.grows⟩
theorem Xk0 (A:Option Addr)(cA:Nat)(l:List Hop)(tk:Int)(w:World)(hl:SlAt hpE w A l)(hlm:l.length≤100000) :
  Calls Tryz.prog 36 #[.slice A l.length cA,.int .i64 tk] w fun e w' => ∃L,L.Perm (bksL l tk)∧Xcz bkE L w e w':=by
 have HL:=Lib.hid hl;obtain ⟨i0,hi0,hz0,hz1,hz2⟩:=info_parts Xsz;have HI:=Lib.hid (And.intro hi0 (And.intro hz0 (And.intro hz1 hz2)));clear hl hi0 hz0 hz1 hz2;go_enter Tryz.func36,Tryz.ntmps36;go_wp2;go_loopw [5,7,10] (fun v _ i wr => ∃k:Nat,k≤l.length∧i = .int .i64 k∧Below w.heap.size w wr∧wr.ownsRow w.heap.size 95 4 v (bksL (l.take k) tk).length ((bksL (l.take k) tk).flatMap bkE.f)) (fun _ _ i _=>l.length - (intOf i).toNat)
 case atStart=>exact ⟨0,Nat.zero_le _,rfl,Below.refl _ _,World.ownsRow_nil _ _ _ _⟩
 case round =>
  obtain ⟨k,hk,rfl,hb,hown⟩:=hrel;have HB:=Lib.hid hb;have HO:=Lib.hid hown
  by_cases hlt:k<l.length
  ·obtain ⟨b,off,rfl,hr⟩:=(HL.out.below HB.out).one (by omega)
   obtain ⟨h,hh⟩:∃h,l[k]? = some h:=⟨_,List.getElem?_eq_getElem hlt⟩;have hrg:wr.rangeAt b (off+k * 4) (hpE.f h):=hr k h hh;obtain ⟨c0,c1,c2,c3⟩:=Tp.rgHp hrg;have HTS:Hid (bksL (l.take (k+1)) tk=bksL (l.take k) tk ++ [⟨h.ct,h.beg,h.fin,tk⟩]):=by
    show _=_;rw[take_snoc hh];simp[bksL]
   have hpl:(bksL (l.take k) tk).length≤100000:=by simp[bksL]; omega
   have HBN:Hid (Below w.heap.size w (wr.alloc (.cells #[.int .i64 h.ct,.int .i64 h.beg,.int .i64 h.fin,.int .i64 h.arr] 41))):=HB.out.alloc HB.out.size _;have HON:Hid ((wr.alloc (.cells #[.int .i64 h.ct,.int .i64 h.beg,.int .i64 h.fin,.int .i64 h.arr] 41)).ownsRow w.heap.size 95 4 u5 (bksL (l.take k) tk).length ((bksL (l.take k) tk).flatMap bkE.f)):=HO.out.alloc _;generalize bksL (l.take k) tk=M at HO HON HTS hpl;clear hh hr hrg hb hown HO HB;obtain ⟨hi0,hz0,hz1,hz2⟩:=HI.out;go_wp2_with (at_builtin; refine wpList_append_own_at _ rfl _ _ 26 rfl w.heap.size 95 i0 (.agg #[.int .i64 0,.int .i64 0,.int .i64 0,.int .i64 0]) 4 32 Tryz.underlying26 hi0 hz0 hz1 hz2 rfl (by decide) _ _ _ rfl (HON.out.alloc _) ⟨wr.heap.size+1,0,none⟩ 1 1 [.int .i64 h.ct,.int .i64 h.beg,.int .i64 h.fin,.int .i64 tk] rfl rfl ?d1 ?d2 ?d3 ?d4 ?d5 ?_)
   case d1=>exact fun j u hu=>by rw[Addr.add_mid,Nat.zero_add]; exact Xcj _ [.int .i64 h.ct,.int .i64 h.beg,.int .i64 h.fin,.int .i64 tk] _ (by simp) j u hu
   case d2=>exact fun u hu=>bkE.one ⟨h.ct,h.beg,h.fin,tk⟩ u hu
   case d3=>unfold maxLen; omega
   case d4=>omega
   case d5=>have:=HBN.out.size; simp at this ⊢; omega
   intro v' w4 hown' hg' _ _;have HB4:Hid (Below w.heap.size w w4):=(HBN.out.alloc HBN.out.size _).grown hg' (by have:=HBN.out.size; simp at this ⊢; omega) (fun j hj=>(HON.out.lt j hj).1)
   have HO4:Hid (w4.ownsRow w.heap.size 95 4 v' (bksL (l.take (k+1)) tk).length ((bksL (l.take (k+1)) tk).flatMap bkE.f)):=by
    show w4.ownsRow _ _ _ _ _ _;rw[HTS.out,List.length_append,List.flatMap_append,show [(⟨h.ct,h.beg,h.fin,tk⟩:Bkg)].flatMap bkE.f = [.int .i64 h.ct,.int .i64 h.beg,.int .i64 h.fin,.int .i64 tk] from rfl];exact hown'
   clear hown' hg' hi0 hz0 hz1 hz2;go_wp2;go_roundw
   case rel=>exact ⟨k+1,by omega,by go_num,HB4.out,HO4.out⟩
   case measure=>simp[intOf]; omega
  ·have HO2:Hid (wr.ownsRow w.heap.size 95 bkE.k u5 (bksL l tk).length ((bksL l tk).flatMap bkE.f)):=by
    have h:=HO.out
    rwa [List.take_of_length_le (by omega)] at h
   have hbn:(bksL l tk).length=l.length:=by simp[bksL]
   have HSO:=Lib.hid (Xkq w.heap.size u5 (bksL l tk) wr HO2.out (by omega))
   clear hb hown hbn;go_wp2_with fail;refine HSO.out.mono ?_;rintro e w2 ⟨rfl,L',hp,-,hr2,hg2⟩;have hb2:Below w.heap.size w w2:=HB.out.grown hg2 HB.out.size (fun j hj=>(HO2.out.lt j hj).1);obtain ⟨A1,c1,rfl,hs1,hc1,hbk⟩:=Xab (E:=bkE) hr2;have HF:Hid (Xcz bkE L' w (.returned (.slice A1 L'.length c1)) w2):=⟨A1,c1,rfl,hs1,hc1,hbk,hb2⟩;have HPM:=Lib.hid hp;clear hp hr2 hg2 hb2 hs1 hc1 hbk HSO HO2 HO HB;go_wp2;go_ret;exact ⟨L',HPM.out,HF.out⟩
end Go.Proofs.YtebkgbmijocdjaaGreat.Tp
