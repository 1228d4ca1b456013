/- A part of the proof; it holds the texts Ckt Frm Fmd (names and blanks shortened). -/
import Derived.Test.YteamjdmhdfjopaaGreatDoorC16
import Derived.Test.YteamjdmhdfjopaaGreatDoorC11
namespace Go.Proofs.YteamjdmhdfjopaaGreatDoor
open Go.RowKit
set_option maxRecDepth 100000
set_option maxHeartbeats 8000000
set_option linter.unusedVariables false
set_option linter.unusedSimpArgs false
set_option linter.unnecessarySimpa false
section
open Go.RowKit Go.Shelf
attribute [local go_sem] Oper.semAt_some
def Ts.small:Ts->Prop
 |.nil=>True
 |.cons _ t kids rest=>t.size<=1000000/\kids.small/\rest.small
theorem Ydz:∀l:Ts,l.small->l.each (fun _ t _=>t.size<=1000000)
 |.nil,_=>trivial
 |.cons _ _ kids rest,⟨h0,h1,h2⟩=>⟨h0,Ydz kids h1,Ydz rest h2⟩
def itOk (most:Int)(x:It):Bool:=decide (x.kind<=most)&&Yq x.kind x.text x.n
structure Yri (most:Int)(pre:List (ItP fun _ t _=>t.size<=1000000))(b:Bool):Prop where
 out:(pre.all fun x=>itOk most x.1)=b
theorem Ydh (most:Int):∀(l:Ts) (xs:List It),YbG l xs->l.right most=xs.all (itOk most)
 |.nil,xs,h=>by rw[show xs=[] from h]; rfl
 |
  .cons k t kids rest,xs,⟨ao,cap,ys,zs,e,h1,h2⟩=>by
  rw[e,List.all_cons,List.all_append,<-Ydh most kids ys h1,<-Ydh most rest zs h2];show(decide (k<=most)&&Yq k t kids.len&&kids.right most&&rest.right most)=_;rw[Bool.and_assoc]; rfl
structure CkA (w:World)(most:Int)(r n:Int)(W:World):Prop where
 c0:W.heap[w.heap.size]? =some (.cells #[.int .i64 most] 3 (0,0))
 c1:W.heap[w.heap.size+1]? =some (.cells #[.int .i64 r] 27 (0,0))
 c2:W.heap[w.heap.size+2]? =some (.cells #[.int .i64 n] 3 (0,0))
 below:Below w.heap.size w W
section
variable {w:World}{most r n:Int}{W W':World}
theorem CkA.keep {S:Nat->Prop}(h:CkA w most r n W)(hK:Keep S W W')(hS:∀k,S k->w.heap.size+3<=k):CkA w most r n W':=
 ⟨(hK.block _ (Zg h.c0).1 (fun q=>by have:=hS _ q; omega)).trans h.c0,(hK.block _ (Zg h.c1).1 (fun q=>by have:=hS _ q; omega)).trans h.c1,
  (hK.block _ (Zg h.c2).1 (fun q=>by have:=hS _ q; omega)).trans h.c2,h.below.trans (hK.below h.below.size (fun i hi q=>by have:=hS _ q; omega))⟩
theorem CkA.lt (h:CkA w most r n W):w.heap.size+2<W.heap.size:=(Zg h.c2).1
theorem CkA.set1 (h:CkA w most r n W)(x:Int):CkA w most x n (W.setCell ⟨w.heap.size+1,0,none⟩ (.int .i64 x)):=by
 have K:=Keep.of_setCell W ⟨w.heap.size+1,0,none⟩ (.int .i64 x);have:=heap_setCell_same W (w.heap.size+1) 0 _ _ (.int .i64 x) h.c1;exact⟨(K.block w.heap.size (by have:=h.lt; omega) (by show ¬w.heap.size=w.heap.size+1; omega)).trans h.c0,by simpa using this,(K.block (w.heap.size+2) h.lt (by show ¬w.heap.size+2=w.heap.size+1; omega)).trans h.c2,h.below.setCell (by show w.heap.size<=w.heap.size+1; omega) _⟩
theorem CkA.set2 (h:CkA w most r n W)(x:Int):CkA w most r x (W.setCell ⟨w.heap.size+2,0,none⟩ (.int .i64 x)):=by
 have K:=Keep.of_setCell W ⟨w.heap.size+2,0,none⟩ (.int .i64 x);have:=heap_setCell_same W (w.heap.size+2) 0 _ _ (.int .i64 x) h.c2;exact⟨(K.block w.heap.size (by have:=h.lt; omega) (by show ¬w.heap.size=w.heap.size+2; omega)).trans h.c0,(K.block (w.heap.size+1) (by have:=h.lt; omega) (by show ¬w.heap.size+1=w.heap.size+2; omega)).trans h.c1,by simpa using this,h.below.setCell (by show w.heap.size<=w.heap.size+2; omega) _⟩
theorem CkA.v0 (h:CkA w most r n W):W.cell? ⟨w.heap.size,0,none⟩=some (.int .i64 most):=by simp[World.cell?,h.c0]
theorem CkA.v1 (h:CkA w most r n W):W.cell? ⟨w.heap.size+1,0,none⟩=some (.int .i64 r):=by simp[World.cell?,h.c1]
theorem CkA.v2 (h:CkA w most r n W):W.cell? ⟨w.heap.size+2,0,none⟩=some (.int .i64 n):=by simp[World.cell?,h.c2]
theorem CkA.f1 (h:CkA w most r n W):W.frozen? ⟨w.heap.size+1,0,none⟩=false:=by simp[World.frozen?,h.c1]
theorem CkA.f2 (h:CkA w most r n W):W.frozen? ⟨w.heap.size+2,0,none⟩=false:=by simp[World.frozen?,h.c2]
theorem CkA.grown {row:Option Nat}(h:CkA w most r n W)(hg:W.grownBy W' row)(hr:∀r,row=some r->w.heap.size+3<=r):CkA w most r n W':=h.keep (Keep.of_grown hg) (fun k e=>hr k e)
end
def CkQ (w:World)(most:Int)(T:Ts)(e:Ending)(w':World):Prop:=e= .returned (.int .i64 (Yy most T))/\Below w.heap.size w w'
theorem Ykg {w:World}{most r n:Int}{W:World}{D:Nat}(h:CkA w most r n W)(hD:W.heap[D]? =some (.deferred (some [])))(hl:w.heap.size<=D):CkA w most r n (W.putObj D (.deferred none)):=by
 have K:=Keep.putObj3 W D (.deferred none);have hne:∀{k:Nat} {c:Array Value} {t:TypeId},W.heap[k]? =some (.cells c t (0,0))->¬k=D:=fun h e=>by subst e; rw[hD] at h; cases h
 exact⟨(K.block _ (Zg h.c0).1 (hne h.c0)).trans h.c0,(K.block _ (Zg h.c1).1 (hne h.c1)).trans h.c1,(K.block _ (Zg h.c2).1 (hne h.c2)).trans h.c2,
  h.below.trans (K.below h.below.size (fun i hi q=>by omega))⟩
theorem Yjz {tmps:Array Value}{w:World}{most r n:Int}{V:World}(t4:tmps[4]? =some (.pointer (some ⟨w.heap.size+1,0,none⟩)))(h:CkA w most r n V):(results Tryz.f137 tmps).run Tryz.prog V= .ok (.int .i64 r) V:=by
 have c0:=h.v1;simp[results,Tryz.f137,go_sem,t4,c0]
theorem Ye8 {w:World}{most r n:Int}{T:Ts}{tmps:Array Value}{W:World}{D:Nat}(t4:tmps[4]? =some (.pointer (some ⟨w.heap.size+1,0,none⟩)))(h:CkA w most r n W)(hD:W.heap[D]? =some (.deferred (some [])))(hl:w.heap.size<=D)
 (hR:r=Yy most T):LeavesInM Fence.wide 6 Tryz.prog Tryz.f137 tmps (CkQ w most T) [{ target:=.collected D,args:=#[] }] .returning W:=by
 have h':=Ykg h hD hl;exact⟨by simp,.inl ⟨D,_,rfl,run_takeDeferred hD,⟨_,Yjz t4 h',by rw[hR],h'.below⟩⟩⟩
theorem Yin {w:World}{most r n:Int}{T:Ts}{tmps:Array Value}{W:World}{D E:Nat}(t4:tmps[4]? =some (.pointer (some ⟨w.heap.size+1,0,none⟩)))(h:CkA w most r n W)(hD:W.heap[D]? =some (.deferred (some [])))(hl:w.heap.size<=D)(hE:W.heap[E]? =some (.deferred (some [])))(hl2:w.heap.size<=E)(hne:D≠E)
 (hR:r=Yy most T):LeavesInM Fence.wide 6 Tryz.prog Tryz.f137 tmps (CkQ w most T) [{ target:=.collected E,args:=#[] },{ target:=.collected D,args:=#[] }] .returning W:=by
 have h':=Ykg h hE hl2;have hD':=((Keep.putObj3 W E (.deferred none)).block D (Zg hD).1 hne).trans hD;exact⟨by simp,.inl ⟨E,_,rfl,run_takeDeferred hE,Ye8 t4 h' hD' hl hR⟩⟩
theorem YnU (w:World)(most:Int)(v:Value)(W0:World)(hW:W0=(((w.alloc (.cells #[.int .i64 most] 3)).alloc (.cells #[.int .i64 0] 27)).alloc (.cells #[.int .i64 0] 3)).alloc (.cells #[v] 35)):
 CkA w most 0 (([]:List It).length:Int) W0/\W0.cell? ⟨w.heap.size+3,0,none⟩=some v:=by
 have n0:=heap_alloc_new w (.cells #[.int .i64 most] 3);have hb1:=below_alloc1 w (.cells #[.int .i64 most] 3);have z1:(w.alloc (.cells #[.int .i64 most] 3)).heap.size=w.heap.size+1:=Zs;generalize w.alloc (.cells #[.int .i64 most] 3)=W1 at n0 hb1 z1 hW;have n1:=heap_alloc_new W1 (.cells #[.int .i64 0] 27);have hb2:=below_alloc1 W1 (.cells #[.int .i64 0] 27);have z2:(W1.alloc (.cells #[.int .i64 0] 27)).heap.size=w.heap.size+2:=by simp[z1]
 generalize W1.alloc (.cells #[.int .i64 0] 27)=W2 at n1 hb2 z2 hW;have n2:=heap_alloc_new W2 (.cells #[.int .i64 0] 3);have hb3:=below_alloc1 W2 (.cells #[.int .i64 0] 3);have z3:(W2.alloc (.cells #[.int .i64 0] 3)).heap.size=w.heap.size+3:=by simp[z2]
 generalize W2.alloc (.cells #[.int .i64 0] 3)=W3 at n2 hb3 z3 hW;have n3:=heap_alloc_new W3 (.cells #[v] 35);have hb4:=below_alloc1 W3 (.cells #[v] 35);subst hW;rw[z1] at n1;rw[z2] at n2;rw[z3] at n3;refine⟨⟨?_,?_,?_,hb1.trans ((hb2.mono Zo).trans ((hb3.mono Zo).trans (hb4.mono Zo)))⟩,by simp[World.cell?,n3]⟩
 ·exact(hb4.block _ Zo).trans ((hb3.block _ Zo).trans ((hb2.block _ Zo).trans n0))
 ·exact(hb4.block _ Zo).trans ((hb3.block _ Zo).trans n1)
 ·exact(hb4.block _ Zo).trans n2
theorem check_any (T:Ts)(most:Int)(v:Value)(w:World)(hT:TsV w (fun _=>True) v T)(hbig:T.nodes<=1000000000000)(hsm:T.small):
 Calls Tryz.prog 137 #[v,.int .i64 most] w (CkQ w most T):=by
 have HD:Hid (∀w',Below w.heap.size w w'->Calls Tryz.prog 187 #[v] w' fun e w2=>e= .returned (.int .i64 T.deep)/\Below w'.heap.size w' w2):=Zh (fun w' hb=>YiL (fun _=>True) (T.nodes+1) T v w' Zo (hT.below hb (fun _ _ _=>trivial)) hbig);obtain⟨ao,cap,rfl⟩:=hT.form;have hFn:∀f,Fence.wide.fn f:=fun _=>trivial;refine callsIn_wide.1 (callsIn_of_wp_marks (n:=6) Tryz.func137 rfl trivial ?_);simp only[Tryz.ntmps137,List.size_toArray,List.length_cons,List.length_nil,Nat.reduceAdd,Nat.reduceSub,Array.replicate_succ,Array.replicate_zero,List.push_toArray,List.append_toArray,List.nil_append,List.cons_append];refine wpIn_wide.2 ?_;go_wp2_with fail;refine(YjJ _ _ _ _).mono ?_;rintro e w2 ⟨rfl,rfl⟩;go_wp2_with fail;obtain⟨W0,hW0⟩:∃W0,W0=(((w.alloc (.cells #[.int .i64 most] 3)).alloc (.cells #[.int .i64 0] 27)).alloc (.cells #[.int .i64 0] 3)).alloc (.cells #[.slice ao T.len cap] 35):=⟨_,rfl⟩;obtain⟨hA,cl⟩:=YnU w most (.slice ao T.len cap) W0 hW0;rw[<-hW0];clear hW0;have hT0:TsV W0 (fun k=>¬(k=w.heap.size+1\/k=w.heap.size+2)) (.slice ao T.len cap) T:=hT.below hA.below (fun k _ hk=>by omega);have hlt0:w.heap.size+3<W0.heap.size:=World.block_lt_of_cell? W0 _ cl;refine(wpIn_wide (n:=6)).1 ?_;refine wpIn_rangeFunc_ownF rfl Zd (gf:=221) (lb:=#[.pointer (some ⟨w.heap.size+3,0,none⟩)]) rfl trivial (enters_of Tryz.func221 (by kernel_rfl) rfl)
  (all_stops (w.heap.size+3) (w.heap.size+3) (fun k=>k=w.heap.size+1\/k=w.heap.size+2) T _ W0 (fun k q=>by omega) Zo hbig cl hT0 Zo) (fun h k=>h.trans k) (fun W l o o' _ ho hc _=>KpC.putObj o' ho hc) (Below.refl _ _) (fun _=>rfl)
  (fun pre W=>CkA w most 0 pre.length W/\pre.length<=4000)
  (fun c pre W=>c= .ret/\CkA w most 5 pre.length W/\4000<pre.length)
  (fun s A A' row hs hg hr=>⟨hs.1.grown hg (fun r e=>by have:=(hr r e).1; omega),hs.2⟩)
  (fun _ s A A' row hs hg hr=>⟨hs.1,hs.2.1.grown hg (fun r e=>by have:=(hr r e).1; omega),hs.2.2⟩) ⟨hA,by simp⟩
  (fun x=>{ tmps:=#[.slice ao T.len cap,.int .i64 most,undef,.pointer (some ⟨w.heap.size,0,none⟩),.pointer (some ⟨w.heap.size+1,0,none⟩),.pointer (some ⟨w.heap.size+2,0,none⟩),undef,.slice ao T.len cap,.func (.func 221) #[] #[.pointer (some ⟨w.heap.size+3,0,none⟩)],itV x,undef,undef,undef,undef,undef,undef,undef,undef,undef,undef,undef,undef,undef,undef,undef,undef,undef,undef,undef],defers:=[] })
  ?assign ?body ?done ?stop
 case assign=>
  intro l x W K hK;gi_wp2
  simpa using hK
 case body=>
  rintro l pre x W ⟨hc,hle⟩ hlen;have v2:=hc.v2;have f2:=hc.f2;have a0:(0:Int)<=(pre.length:Int)+1:=Zo;have a1:(pre.length:Int)+1<=4001:=Zo;have HN:=Zh (hc.set2 ((pre.length:Int)+1));have HK:=Zh (Keep.of_setCell W ⟨w.heap.size+2,0,none⟩ (.int .i64 ((pre.length:Int)+1)));have hlt:=hc.lt;by_cases h4:pre.length=4000
  ·have g1:decide ((4000:Int)<(pre.length:Int)+1)=true:=Zt;have v1:=hc.v1;have f1:=hc.f1;have HN2:=Zh (HN.out.set1 5);have H4:=Zh h4;clear hc h4;have hFn:∀f,(Fence.wide.inRound l).fn f:=fun _=>trivial;gi_wp2
   refine⟨(KeepsOthers.setCell _ _ _).trans (KeepsOthers.setCell _ _ _),rfl,?_,?_⟩
   ·have:=HN2.out;rw[List.length_append,List.length_singleton];simpa using this
   ·have:=H4.out; rw[List.length_append,List.length_singleton]; omega
  ·have g1:decide ((4000:Int)<(pre.length:Int)+1)=false:=Zf;clear hc;have hFn:∀f,(Fence.wide.inRound l).fn f:=fun _=>trivial;gi_wp2
   refine⟨KeepsOthers.setCell _ _ _,KpC.of_keep (HK.out.mono (fun k _ q=>.inr q)),?_,?_⟩
   ·have:=HN.out;rw[List.length_append,List.length_singleton];simpa using this
   ·rw[List.length_append,List.length_singleton]; omega
 case done=>
  rintro D xs W hDl hxs ⟨hc,hle⟩ hD;have HNL:Hid (T.nodes<=4000):=Zh (by rw[<-YdP T xs hxs]; exact hle);have hI:=HD.out W hc.below;have HI:=Zh hI;have HC:=Zh hc;have HDD:=Zh hD;clear hI hc hD cl hT0 hA HD;dsimp only;go_wp2_with fail;refine HI.out.mono ?_;rintro e W1 ⟨rfl,hb1⟩;have hc1:=HC.out.keep (Keep.of_below (S:=fun _=>False) hb1) (fun _ q=>q.elim);have hD1:=(hb1.block D (Zg HDD.out).1).trans HDD.out;have hDlt:=(Zg hD1).1;have v1:=hc1.v1;have f1:=hc1.f1;by_cases h100:T.deep<=100
  ·have g1:decide ((100:Int)<(T.deep:Int))=false:=Zf;have HC1:=Zh hc1;have HD1:=Zh hD1;clear HI HC HDD hb1 hc1 hD1;go_wp2_with fail;refine(YjJ _ _ _ _).mono ?_;rintro e w2 ⟨rfl,rfl⟩;have hc1:=HC1.out.keep (Keep.of_alloc (S:=fun _=>False) W1 (.cells #[.slice ao T.len cap] 35)) (fun _ q=>q.elim);have hD1:=((Keep.of_alloc (S:=fun _=>False) W1 (.cells #[.slice ao T.len cap] 35)).block D hDlt (fun q=>q)).trans HD1.out;have hcl:(W1.alloc (.cells #[.slice ao T.len cap] 35)).cell? ⟨W1.heap.size,0,none⟩=some (.slice ao T.len cap):=by
    rw[cell_of_row _ W1.heap.size 0 #[.slice ao T.len cap] 35 (0,0) (heap_alloc_new W1 _)]; rfl
   have hz:(W1.alloc (.cells #[.slice ao T.len cap] 35)).heap.size=W1.heap.size+1:=Zs;have hlt1:=HC1.out.lt;clear HC1 HD1 v1 f1;go_wp2_with fail;have hlt2:D<(W1.alloc (.cells #[.slice ao T.len cap] 35)).heap.size:=(Zg hD1).1;have hT2:TsV (W1.alloc (.cells #[.slice ao T.len cap] 35)) (fun k=>¬(k=w.heap.size+1)) (.slice ao T.len cap) T:=hT.below hc1.below (fun k _ hk=>by omega);generalize W1.alloc (.cells #[.slice ao T.len cap] 35)=W2 at hc1 hD1 hcl hz hlt2 hT2⊢;refine(wpIn_wide (n:=6)).1 ?_;refine wpIn_rangeFunc_ownH rfl Zd (gf:=221) (lb:=#[.pointer (some ⟨W1.heap.size,0,none⟩)]) rfl trivial (enters_of Tryz.func221 (by kernel_rfl) rfl)
    (YlI (fun _ t _=>t.size<=1000000) W1.heap.size (w.heap.size+3) (fun k=>k=w.heap.size+1) T _ W2 (fun k q=>by omega) Zo hbig (Ydz T hsm) hcl hT2 Zo) (fun h k=>h.trans k) (fun W l o o' _ ho hc _=>KpC.putObj o' ho hc) (Below.refl _ _) (fun _=>rfl)
    (fun pre W=>CkA w most 0 xs.length W/\W.heap[D]? =some (.deferred (some []))/\Yri most pre true/\W2.heap.size<=W.heap.size)
    (fun c pre W=>c= .ret/\CkA w most 2 xs.length W/\W.heap[D]? =some (.deferred (some []))/\Yri most pre false)
    (fun s A A' row hs hg hr=>⟨hs.1.grown hg (fun r e=>by have:=(hr r e).1; omega),(hg.block _ (Zg hs.2.1).1 (fun e=>by have:=(hr _ e.symm).1; omega)).trans hs.2.1,hs.2.2.1,Nat.le_trans hs.2.2.2 hg.size⟩)
    (fun _ s A A' row hs hg hr=>⟨hs.1,hs.2.1.grown hg (fun r e=>by have:=(hr r e).1; omega),(hg.block _ (Zg hs.2.2.1).1 (fun e=>by have:=(hr _ e.symm).1; omega)).trans hs.2.2.1,hs.2.2.2⟩) ⟨hc1,hD1,⟨rfl⟩,Nat.le_refl _⟩
    (fun x a' W=>∃p,W2.heap.size<=p/\W.heap[p]? =some (.cells #[.int .i64 x.1.kind,.string x.1.text,.slice x.1.ao x.1.n x.1.cap] 223 (0,0))/\a'={ tmps:=#[.slice ao T.len cap,.int .i64 most,undef,.pointer (some ⟨w.heap.size,0,none⟩),.pointer (some ⟨w.heap.size+1,0,none⟩),.pointer (some ⟨w.heap.size+1+1,0,none⟩),.pointer (some ⟨p,0,none⟩),.slice ao T.len cap,.func (.func 221) #[] #[.pointer (some ⟨w.heap.size+1+1+1,0,none⟩)],undef,undef,undef,undef,undef,.slice ao T.len cap,.int .i64 T.deep,.bool false,.slice ao T.len cap,.func (.func 221) #[] #[.pointer (some ⟨W1.heap.size,0,none⟩)],itV x.1,undef,undef,undef,undef,undef,undef,undef,undef,undef],defers:=[] })
    (fun x a' s A A' row ⟨p,hp,hs,e⟩ hg hr=>⟨p,hp,(hg.block _ (Zg hs).1 (fun e=>by obtain⟨_,o,ho,hc⟩:=hr _ e.symm; rw[hs] at ho; cases ho; cases hc)).trans hs,e⟩)
    ?asg2 ?bdy2 ?dne2 ?stp2
   case asg2=>
    rintro l pre x W K ⟨hc,hd,hall,hge⟩ hK;have hx:=heap_alloc_new W (.cells #[.int .i64 x.1.kind,.string x.1.text,.slice x.1.ao x.1.n x.1.cap] 223);have KA:Keep (fun _=>False) W (W.alloc (.cells #[.int .i64 x.1.kind,.string x.1.text,.slice x.1.ao x.1.n x.1.cap] 223)):=Keep.of_alloc W _;have hK2:=hK { tmps:=#[.slice ao T.len cap,.int .i64 most,undef,.pointer (some ⟨w.heap.size,0,none⟩),.pointer (some ⟨w.heap.size+1,0,none⟩),.pointer (some ⟨w.heap.size+1+1,0,none⟩),.pointer (some ⟨W.heap.size,0,none⟩),.slice ao T.len cap,.func (.func 221) #[] #[.pointer (some ⟨w.heap.size+1+1+1,0,none⟩)],undef,undef,undef,undef,undef,.slice ao T.len cap,.int .i64 T.deep,.bool false,.slice ao T.len cap,.func (.func 221) #[] #[.pointer (some ⟨W1.heap.size,0,none⟩)],itV x.1,undef,undef,undef,undef,undef,undef,undef,undef,undef],defers:=[] } _
     ((KeepsOthers.alloc W _).from _) (KpC.of_alloc W _) ⟨hc.keep KA (fun _ q=>q.elim),(KA.block D (Zg hd).1 (fun q=>q)).trans hd,hall,Nat.le_trans hge KA.size⟩ ⟨W.heap.size,hge,hx,rfl⟩
    have HK2:=Zh hK2;clear hK hK2 hx KA hc hd hall;unfold itV at HK2;have hFn:∀f,(Fence.wide.inRound l).fn f:=fun _=>trivial;dsimp only[itV];gi_wp2
    exact HK2.out
   case bdy2=>
    rintro l pre x a' W hl _ ⟨hc,hd,hall,hge⟩ ⟨p,hp,hx,rfl⟩ hlen;have x0:W.cell? ⟨p,0,none⟩=some (.int .i64 x.1.kind):=by simp[World.cell?,hx]
    have x1:W.cell? ⟨p,1,none⟩=some (.string x.1.text):=by simp[World.cell?,hx]
    have x2:W.cell? ⟨p,2,none⟩=some (.slice x.1.ao x.1.n x.1.cap):=by simp[World.cell?,hx]
    have v0:=hc.v0;have v1:=hc.v1;have f1:=hc.f1;have HN2:=Zh (hc.set1 2);have hlt:=hc.lt;by_cases hk:x.1.kind<=most
    ·have g1:decide (most<x.1.kind)=false:=Zf;have hC:=Yh3 x.1.kind x.1.text x.1.ao x.1.n x.1.cap W x.2;have HOK:Hid (itOk most x.1=Yq x.1.kind x.1.text x.1.n):=Zh (by unfold itOk; rw[decide_eq_true hk]; rfl);have HX:=Zh (And.intro hc (And.intro hd (And.intro hall hge)));generalize Yq x.1.kind x.1.text x.1.n=R at hC HOK;have HC:=Zh hC;have hFn:∀f,(Fence.wide.inRound l).fn f:=fun _=>trivial;clear hC hc hd hall hx hk HN2;gi_wp2_with fail
     refine(CallsIn.inRound l (callsIn_wide.2 HC.out)).mono ?_;rintro e w' ⟨rfl,hb⟩;obtain⟨hc,hd,hall,hge⟩:=HX.out;have KB:Keep (fun _=>False) W w':=Keep.of_below hb;have hc':=hc.keep KB (fun _ q=>q.elim);have hd':=(KB.block D (Zg hd).1 (fun q=>q)).trans hd;have hDne:¬D=w.heap.size+1:=fun q=>by subst q; rw[hc.c1] at hd; cases hd
     have HI:Hid (KeepsFrom W2.heap.size W w'/\KpC (fun k=>k=w.heap.size+1) W w'/\W2.heap.size<=w'.heap.size):=Zh ⟨⟨KB.size,fun k o _ hk ho=>(KB.block k (Zg hk).1 (fun q=>q)).trans hk⟩,KpC.of_keep (KB.mono (fun _ _ q=>q.elim)),Nat.le_trans hge KB.size⟩;cases R with
     |
      true=>
      have HY:=Zh (And.intro hc' (And.intro hd' hall));clear x0 x1 x2 v0 v1 f1 hc hd hall hc' hd' KB hb;gi_wp2
      refine⟨HI.out.1,HI.out.2.1,HY.out.1,HY.out.2.1,?_,HI.out.2.2⟩;exact⟨by rw[List.all_append,HY.out.2.2.out]; simp[HOK.out]⟩
     |
      false=>
      have v1:=hc'.v1;have f1:=hc'.f1;have K1:=Keep.of_setCell w' ⟨w.heap.size+1,0,none⟩ (.int .i64 2);have HY:=Zh (And.intro (hc'.set1 2) (And.intro ((K1.block D (Zg hd').1 hDne).trans hd') hall));clear x0 x1 x2 v0 hc hd hall hc' hd' KB hb K1;gi_wp2
      refine⟨⟨by have:=HI.out.1.size; simpa[World.setCell] using this,fun k o h1 h2 h3=>?_⟩,rfl,HY.out.1,HY.out.2.1,?_⟩
      ·exact(KeepsOthers.setCell w' ⟨w.heap.size+1,0,none⟩ (.int .i64 2)).same k o (HI.out.1.same k o h1 h2 h3) h3
      ·exact⟨by rw[List.all_append,HY.out.2.2.out]; simp[HOK.out]⟩
    ·have g1:decide (most<x.1.kind)=true:=Zt;have hFn:∀f,(Fence.wide.inRound l).fn f:=fun _=>trivial;have hDne:¬D=w.heap.size+1:=fun q=>by subst q; rw[hc.c1] at hd; cases hd
     have K1:=Keep.of_setCell W ⟨w.heap.size+1,0,none⟩ (.int .i64 2);have HY:=Zh (And.intro ((K1.block D (Zg hd).1 hDne).trans hd) hall);have HOK:Hid (itOk most x.1=false):=Zh (by unfold itOk; rw[decide_eq_false hk]; rfl);clear hc hd hall hx hk K1;gi_wp2
     refine⟨(KeepsOthers.setCell _ _ _).from _,rfl,HN2.out,HY.out.1,?_⟩;exact⟨by rw[List.all_append,HY.out.2.out]; simp[HOK.out]⟩
   case dne2=>
    rintro E ys W3 hEl hys ⟨hc,hd,hall,hge⟩ hE;have hright:=Ydh most T _ hys;rw[List.all_map] at hright;have hR0:=HNL.out;have hR:T.right most=true:=hright.trans hall.out;have hne:D≠E:=Zo;have v1:=hc.v1;have f1:=hc.f1;have h1:¬D=w.heap.size+1:=fun q=>by subst q; rw[hc.c1] at hd; cases hd
    have h2:¬E=w.heap.size+1:=fun q=>by subst q; rw[hc.c1] at hE; cases hE
    have K1:=Keep.of_setCell W3 ⟨w.heap.size+1,0,none⟩ (.int .i64 0);have HY:=Zh (And.intro (hc.set1 0) (And.intro ((K1.block D (Zg hd).1 h1).trans hd) ((K1.block E (Zg hE).1 h2).trans hE)));clear hc hd hall hE K1 hright hys h1 h2;dsimp only;go_wp2;exact Yin rfl HY.out.1 HY.out.2.1 Zo HY.out.2.2 Zo hne (by unfold Yy; rw[if_neg Zo,if_neg Zo,if_pos hR])
   case stp2=>
    rintro E c pre W3 hEl ⟨r,hr⟩ ⟨rfl,hc,hd,hall⟩ hE;have hright:=Ydh most T _ hr;rw[List.all_append,List.all_map] at hright;have hR0:=HNL.out;have hR:¬T.right most=true:=by
     rw[hright,show(pre.all (itOk most∘Subtype.val))=false from hall.out];simp
    refine wpIn_wide.2 ?_;go_wp2;exact Yin rfl hc hd Zo hE Zo Zo (by unfold Yy; rw[if_neg Zo,if_neg Zo,if_neg hR])
  ·have g1:decide ((100:Int)<(T.deep:Int))=true:=Zt;have HN:=Zh (hc1.set1 6);have HD2:=Zh (((Keep.of_setCell W1 ⟨w.heap.size+1,0,none⟩ (.int .i64 6)).block D hDlt (fun q=>by have q:D=w.heap.size+1:=q; subst q; rw[hc1.c1] at hD1; cases hD1)).trans hD1);clear HI HC HDD hb1 hc1 hD1;go_wp2;exact Ye8 rfl HN.out HD2.out Zo (by have:=HNL.out; unfold Yy; rw[if_neg Zo,if_pos Zo])
 case stop=>
  rintro D c pre W hDl ⟨r,hr⟩ ⟨rfl,hc,hlt⟩ hD;have hlen:=YdP T _ hr;rw[List.length_append] at hlen;refine wpIn_wide.2 ?_;go_wp2;exact Ye8 rfl hc hD Zo (by unfold Yy; rw[if_pos Zo])
end
theorem Yfz (T:Ts)(v:Value)(w:World)(hT:TsV w (fun _=>True) v T)(hbig:T.nodes<=1000000000000)(hsm:T.small):
 Calls Tryz.prog 100 #[v] w (CkQ w 7 T):=by
 have hC:=check_any T 7 v w hT hbig hsm;obtain⟨ao,cap,rfl⟩:=hT.form;unfold CkQ at hC⊢;generalize Yy 7 T=R at hC⊢;go_enter Tryz.func100,Tryz.ntmps100;go_wp2_with fail;refine hC.mono ?_;rintro e w1 ⟨rfl,hb⟩;clear hC;go_wp2;go_ret;exact⟨rfl,hb⟩
theorem Ycq (T:Ts)(v:Value)(w:World)(hT:TsV w (fun _=>True) v T)(hbig:T.nodes<=1000000000000)(hsm:T.small):
 Calls Tryz.prog 101 #[v] w (CkQ w 8 T):=by
 have hC:=check_any T 8 v w hT hbig hsm;obtain⟨ao,cap,rfl⟩:=hT.form;unfold CkQ at hC⊢;generalize Yy 8 T=R at hC⊢;go_enter Tryz.func101,Tryz.ntmps101;go_wp2_with fail;refine hC.mono ?_;rintro e w1 ⟨rfl,hb⟩;clear hC;go_wp2;go_ret;exact⟨rfl,hb⟩
theorem Ydu (b:Bool)(c:Int)(w:World):
 Calls Tryz.prog 51 #[.bool b,.int .i64 c] w fun e w'=>e= .returned (.int .i64 (if b=true then 0 else c))/\w'=w:=by
 cases b<;>
 ·go_enter Tryz.func51,Tryz.ntmps51;go_wp2;go_ret;exact⟨rfl,rfl⟩
def Ycb:List Int->Int
 |[]=>0
 |e::l=>orC e (Ycb l)
theorem YiF {l:List Int}{k:Nat}(h:∀j (hj:j<l.length),j<k->l[j]=0):Ycb l=Ycb (l.drop k):=by
 induction k generalizing l with
 |zero=>rfl
 |
  succ k ih=>
  cases l with
  |nil=>rfl
  |
   cons e l=>
   have h0:e=0:=h 0 Zs Zo;subst h0;show orC 0 (Ycb l)=Ycb (l.drop k);rw[<-ih (fun j hj hk=>by have:=h (j+1) (by simpa using hj) Zo; simpa using this)];rfl
theorem first_any (l:List Int)(g cap:Nat)(w:World)(hl:l.length<=1000000)(hc:∀j (h:j<l.length),w.cell? ⟨g,j,none⟩=some (.int .i64 l[j])):
 Calls Tryz.prog 50 #[.slice (some ⟨g,0,none⟩) l.length cap] w fun e w'=>e= .returned (.int .i64 (Ycb l))/\w'=w:=by
 have HC:=Zh hc;have HR:=Zh (rfl (a:=Ycb l));have HZ:Hid (∀k,(∀j (hj:j<l.length),j<k->l[j]=0)->Ycb l=Ycb (l.drop k)):=Zh (fun k h=>YiF h);clear hc HR;generalize Ycb l=R at HZ⊢;go_enter Tryz.func50,Tryz.ntmps50;go_wp2;go_loopw [7] (fun i wr=>∃k:Nat,k<=l.length/\i= .int .i64 k/\wr=w/\Hid (∀j (hj:j<l.length),j<k->l[j]=0)) (fun i _=>l.length - (intOf i).toNat)
 case atStart=>exact⟨0,Nat.zero_le _,rfl,rfl,Zh fun j hj hk=>by omega⟩
 case round=>
  obtain⟨k,hk,rfl,rfl,HK⟩:=hrel;by_cases hkl:k<l.length
  ·have l1:decide ((k:Int)<(l.length:Int))=true:=Zt;have l2:decide (k<l.length)=true:=decide_eq_true hkl;have c0:=HC.out k hkl;by_cases h0:l[k]=0
   ·rw[h0] at c0;have HN:Hid (∀j (hj:j<l.length),j<k+1->l[j]=0):=Zh fun j hj hjk=>by
     by_cases e:j=k
     ·subst e; exact h0
     ·exact HK.out j hj Zo
    clear h0;go_wp2;go_roundw
    case rel=>exact⟨k+1,by omega,by go_num,by trivial,HN⟩
    case measure=>simp[intOf]; omega
   ·have hb:(l[k] != 0)=true:=by simpa using h0
    have HRR:Hid (R=l[k]):=Zh (by
     rw[HZ.out k HK.out,List.drop_eq_getElem_cons hkl];show orC l[k] _=l[k];unfold orC; rw[if_neg h0])
    generalize l[k]=x at c0 hb HRR;clear h0;go_wp2;go_ret;exact⟨by rw[HRR.out]; rfl,rfl⟩
  ·have l1:decide ((k:Int)<(l.length:Int))=false:=Zf;have l2:decide (k<l.length)=false:=decide_eq_false hkl;have HRR:Hid (R=0):=Zh (by rw[HZ.out k HK.out,List.drop_eq_nil_of_le Zo]; rfl);go_wp2;go_ret;exact⟨by rw[HRR.out]; rfl,rfl⟩
theorem Ym2 (s:ByteArray):(YL s&&decide (s.size<=40))=Yh 40 s:=by
 unfold YL Yh;have e:decide ((s.size:Int)<=40)=decide (s.size<=40):=by rw[decide_eq_decide]; omega
 rw[e];by_cases h:s.size<=40
 ·rw[decide_eq_true h,decide_eq_true (show s.size<=60 by omega),Bool.and_true]
 ·rw[decide_eq_false h]; simp
theorem Yij (s:ByteArray)(w:World):
 Calls Tryz.prog 49 #[.string s] w fun e w'=>e= .returned (.int .i64 (J6 s))/\Below w.heap.size w w':=by
 have hN:=YgH s w;have hU:=fun b w=>Ydu b 2 w;unfold J6;rw[<-Ym2 s];have hd:decide ((s.size:Int)<=40)=decide (s.size<=40):=by rw[decide_eq_decide]; omega
 generalize YL s=N at hN⊢;generalize decide (s.size<=40)=D at hd⊢;cases N<;>cases D<;>
 ·go_enter Tryz.func49,Tryz.ntmps49;go_wp2_with fail;refine hN.mono ?_;rintro e w1 ⟨rfl,hb⟩;clear hN;go_wp2_with fail;refine(hU _ _).mono ?_;rintro e w2 ⟨rfl,rfl⟩;clear hU;go_wp2;go_ret;exact⟨rfl,hb⟩
def Ts.fine (l:Ts):Prop:=l.nodes<=1000000000000/\l.small
def JU:List (Ts×Ts)->Prop
 |[]=>True
 |x::l=>x.1.fine/\x.2.fine/\JU l
def Ss.fine:Ss->Prop
 |.nil=>True
 |.cons left tests right subject block rest=>left.fine/\(JU tests/\tests.length<=1000000000000)/\right.fine/\subject.fine/\(block.fine/\block.len<=1000000000000)/\rest.fine
def Ss.sz:Ss->Nat
 |.nil=>0
 |.cons _ _ _ _ block rest=>block.sz+rest.sz+1
def Yec (blocks:Nat)(right subject:Ts)(block:Ss):Int:=
 if block.len=0 then orC (if subject.len=0 then 0 else 2) (Yy 8 right)
 else orC (if right.len=0 then 0 else 2) (orC (if blocks<6 then 0 else 6) (orC (Yy 8 subject) (Ss.form (blocks+1) block)))
def Yee (blocks:Nat)(left:Ts)(tests:List (Ts×Ts))(right subject:Ts)(block:Ss):Int:=orC (Yy 7 left) (orC (J5 tests) (Yec blocks right subject block))
theorem YpN (l:List Int)(W:World)(hl:l.length<=1000000)(cap:Nat)(n:Int)(hn:n=l.length):
 Calls Tryz.prog 50 #[.slice (some ⟨W.heap.size,0,none⟩) l.length cap] (W.alloc (.cells (l.map fun e=>Value.int .i64 e).toArray 27)) fun e w'=>e= .returned (.int .i64 (Ycb l))/\w'=W.alloc (.cells (l.map fun e=>Value.int .i64 e).toArray 27):=
 first_any l W.heap.size cap _ hl fun j hj=>by
  rw[cell_of_row _ W.heap.size j _ 27 (0,0) (heap_alloc_new W _)];simp[hj]
theorem YnD (a b:Int)(W:World):
 Calls Tryz.prog 50 #[.slice (some ⟨W.heap.size,0,none⟩) 2 2] (W.alloc (.cells #[.int .i64 a,.int .i64 b] 27)) fun e w'=>e= .returned (.int .i64 (orC a b))/\Below W.heap.size W w':=by
 refine(YpN [a,b] W Zs 2 2 rfl).mono ?_;rintro e w' ⟨rfl,rfl⟩;refine⟨?_,below_alloc1 _ _⟩;show Ending.returned (.int .i64 (orC a (orC b 0)))=_;have:orC b 0=b:=by unfold orC; split<;>simp_all
 rw[this]
theorem Yq2 (a b c:Int)(W:World):
 Calls Tryz.prog 50 #[.slice (some ⟨W.heap.size,0,none⟩) 3 3] (W.alloc (.cells #[.int .i64 a,.int .i64 b,.int .i64 c] 27)) fun e w'=>e= .returned (.int .i64 (orC a (orC b c)))/\Below W.heap.size W w':=by
 refine(YpN [a,b,c] W Zs 3 3 rfl).mono ?_;rintro e w' ⟨rfl,rfl⟩;refine⟨?_,below_alloc1 _ _⟩;show Ending.returned (.int .i64 (orC a (orC b (orC c 0))))=_;have:orC c 0=c:=by unfold orC; split<;>simp_all
 rw[this]
theorem Yb6 (a b c:Int):orC (orC a b) c=orC a (orC b c):=by
 unfold orC;by_cases h:a=0
 ·simp[h]
 ·simp[h]
def unC (b:Bool)(c:Int):Int:=if b=true then 0 else c
structure FmS (W0:World)(R:Int)(blocks:Nat)(bl:Ss)(ao:Option Addr)(wr:World)(k:Nat)(rest:Ss):Prop where
 below:Below W0.heap.size W0 wr
 len:k+rest.len=bl.len
 sz:rest.sz<=bl.sz
 tail:rest≠.nil->∃g o,ao=some ⟨g,o,none⟩/\rest.at W0 (fun _=>True) g (o+k*5)
 fine:rest.fine
 eq:R=Ss.form blocks rest
def FmQ (R:Int)(w:World)(e:Ending)(w':World):Prop:=e= .returned (.int .i64 R)/\Below w.heap.size w w'
theorem Yba {w:World}{S:Nat->Prop}:∀(l:List (Ts×Ts)) (b off k:Nat),YbS w S l b off->(h:k<l.length)->(∃v,w.cell? ⟨b,off+k*2,none⟩=some v/\TsV w S v l[k].1)/\(∃v,w.cell? ⟨b,off+k*2+1,none⟩=some v/\TsV w S v l[k].2)
 |[],_,_,_,_,h=>by simp at h
 |x::l,b,off,0,⟨h0,h1,_⟩,_=>⟨by simpa using h0,by simpa using h1⟩
 |
  x::l,b,off,k+1,⟨_,_,h2⟩,h=>by
  have:=Yba l b (off+2) k h2 (by simpa using h);rw[show off+(k+1)*2=off+2+k*2 by omega];exact this
theorem YfU:∀(l:List (Ts×Ts)) (k:Nat),JU l->(h:k<l.length)->l[k].1.fine/\l[k].2.fine
 |[],_,_,h=>by simp at h
 |x::l,0,⟨h0,h1,_⟩,_=>⟨h0,h1⟩
 |x::l,k+1,⟨_,_,h2⟩,h=>YfU l k h2 (by simpa using h)
structure FmT (W0:World)(R X:Int)(l:List (Ts×Ts))(ao:Option Addr)(wr:World)(k:Nat):Prop where
 below:Below W0.heap.size W0 wr
 le:k<=l.length
 eq:R=orC (J5 (l.drop k)) X
theorem YnC (m:Nat)(ih:∀(l:Ts) (t:List (Ts×Ts)) (r sb:Ts) (bl:Ss) (v0 v1 v2 v3 v4:Value) (blocks:Nat) (w:World),bl.sz<m->TsV w (fun _=>True) v0 l->Y3 w (fun _=>True) v1 t->TsV w (fun _=>True) v2 r->TsV w (fun _=>True) v3 sb->SsV w (fun _=>True) v4 bl->
 l.fine->(JU t/\t.length<=1000000000000)->r.fine->sb.fine->(bl.fine/\bl.len<=1000000000000)->blocks<=6->Calls Tryz.prog 52 #[.agg #[v0,v1,v2,v3,v4],.int .i64 blocks] w (FmQ (Yee blocks l t r sb bl) w))
 (l:Ts)(t:List (Ts×Ts))(r sb:Ts)(bl:Ss)(v0 v1 v2 v3 v4:Value)(blocks:Nat)(w:World)(hm:bl.sz<m+1)(h0:TsV w (fun _=>True) v0 l)(h1:Y3 w (fun _=>True) v1 t)(h2:TsV w (fun _=>True) v2 r)(h3:TsV w (fun _=>True) v3 sb)(h4:SsV w (fun _=>True) v4 bl)
 (g0:l.fine)(g1:JU t/\t.length<=1000000000000)(g2:r.fine)(g3:sb.fine)(g4:bl.fine/\bl.len<=1000000000000)(hb:blocks<=6):
 Calls Tryz.prog 52 #[.agg #[v0,v1,v2,v3,v4],.int .i64 blocks] w (FmQ (Yee blocks l t r sb bl) w):=by
 have htl:=g1.2;have hbll:=g4.2;obtain⟨a0,c0,rfl⟩:=h0.form;obtain⟨a1,c1,rfl,h1'⟩:=h1;obtain⟨a2,c2,rfl⟩:=h2.form;obtain⟨a3,c3,rfl⟩:=h3.form;obtain⟨a4,c4,rfl,h4'⟩:=h4;have hbx:=below_alloc1 w (.cells #[.slice a0 l.len c0,.slice a1 t.length c1,.slice a2 r.len c2,.slice a3 sb.len c3,.slice a4 bl.len c4] 39);have nx:=heap_alloc_new w (.cells #[.slice a0 l.len c0,.slice a1 t.length c1,.slice a2 r.len c2,.slice a3 sb.len c3,.slice a4 bl.len c4] 39);have hP:=Yfz l _ _ (h0.below hbx (fun _ _ _=>trivial)) g0.1 g0.2;have IH:=Zh ih;have HS:Hid (Yee blocks l t r sb bl=orC (Yy 7 l) (orC (J5 t) (Yec blocks r sb bl))):=Zh rfl;generalize Yee blocks l t r sb bl=R at HS⊢;have HH:=Zh (And.intro hbx (And.intro nx (And.intro h1' (And.intro h2 (And.intro h3 h4')))));clear ih h0 h2 h3 h1' h4' hbx nx;unfold CkQ at hP;generalize Yy 7 l=E0 at hP HS;go_enter Tryz.func52,Tryz.ntmps52;go_wp2_with fail;refine hP.mono ?_;rintro e w1 ⟨rfl,hb1⟩;clear hP;by_cases he0:E0=0
 ·subst he0;have HT:Hid (R=orC (J5 (t.drop 0)) (Yec blocks r sb bl)):=HS;obtain⟨hbx,nx,h1',h2,h3,h4'⟩:=HH.out;have n1:=(hb1.block w.heap.size (Zg nx).1).trans nx;have d1:w1.cell? ⟨w.heap.size,1,none⟩=some (.slice a1 t.length c1):=by simp[World.cell?,n1]
  have HW:=Zh (hbx.trans (hb1.mono hbx.size));have ht1:Y3 w1 (fun _=>True) (.slice a1 t.length c1) t:=Y3.keep ⟨a1,c1,rfl,h1'⟩ (fun k _ hk=>(hbx.trans (hb1.mono hbx.size)).block k hk) (fun k _ _=>trivial);have HR2:=Zh (And.intro n1 (And.intro ht1 (And.intro (h2.below (hbx.trans (hb1.mono hbx.size)) (fun _ _ _=>trivial)) (And.intro (h3.below (hbx.trans (hb1.mono hbx.size)) (fun _ _ _=>trivial)) (SsV.keep ⟨a4,c4,rfl,h4'⟩ (fun k _ hk=>(hbx.trans (hb1.mono hbx.size)).block k hk) (fun k _ _=>trivial))))));clear hbx nx h1' h2 h3 h4' n1 ht1 hb1 HH HS;obtain⟨X,hX⟩:∃X,X=Yec blocks r sb bl:=⟨_,rfl⟩;rw[<-hX] at HT;have HX:=Zh hX;clear hX;go_wp2_with fail;go_loopw [22] (fun i wr=>∃k:Nat,i= .int .i64 k/\FmT w1 R X t a1 wr k) (fun i _=>t.length - (intOf i).toNat)
  case atStart=>exact⟨0,rfl,Below.refl _ _,Nat.zero_le _,HT.out⟩
  case round=>
   obtain⟨k,rfl,hS⟩:=hrel;clear d1 HT;have hle:=hS.le;by_cases hk:k<t.length
   ·have l0:decide ((k:Int)<(t.length:Int))=true:=Zt;have l1:decide (k<t.length)=true:=decide_eq_true hk;obtain⟨n1,ht1,_⟩:=HR2.out;obtain⟨a1',c1',e1,htat⟩:=ht1;cases e1;obtain⟨g,o,rfl,_,hat⟩:=htat (fun q=>by rw[q] at hk; cases hk);obtain⟨⟨v,hv,hV⟩,⟨u,hu,hU⟩⟩:=Yba t g o k hat hk;obtain⟨fv,fu⟩:=YfU t k g1.1 hk;have hgl:=World.block_lt_of_cell? w1 _ hv;have d0:=(hS.below.cell (p:=⟨g,o+k*2,none⟩) hgl).trans hv;have d1:=(hS.below.cell (p:=⟨g,o+k*2+1,none⟩) hgl).trans hu;have hA:Below wr.heap.size wr (wr.alloc (.cells #[v,u] 104)).drew:=below_drewN (below_alloc1 wr _) 1;have hA0:(wr.alloc (.cells #[v,u] 104)).drew.cell? ⟨wr.heap.size,0,none⟩=some v:=(cell_of_row _ wr.heap.size 0 #[v,u] 104 (0,0) (heap_alloc_new wr _)).trans rfl;have hA1:(wr.alloc (.cells #[v,u] 104)).drew.cell? ⟨wr.heap.size,1,none⟩=some u:=(cell_of_row _ wr.heap.size 1 #[v,u] 104 (0,0) (heap_alloc_new wr _)).trans rfl;have hAz:wr.heap.size<(wr.alloc (.cells #[v,u] 104)).drew.heap.size:=by show wr.heap.size<(wr.alloc _).heap.size; simp
    have HRes:Hid (∀W,Below (wr.alloc (.cells #[v,u] 104)).drew.heap.size (wr.alloc (.cells #[v,u] 104)).drew W->Calls Tryz.prog 101 #[v] W fun e w'=>e= .returned (.int .i64 (Yy 8 t[k].1))/\Below (wr.alloc (.cells #[v,u] 104)).drew.heap.size (wr.alloc (.cells #[v,u] 104)).drew w'/\w'.cell? ⟨wr.heap.size,0,none⟩=some v/\w'.cell? ⟨wr.heap.size,1,none⟩=some u):=Zh fun W hW=>
     (Ycq t[k].1 v W (hV.below (hS.below.trans ((hA.trans (hW.mono hA.size)).mono hS.below.size)) (fun _ _ _=>trivial)) fv.1 fv.2).mono fun e w' ⟨h1,h2⟩=>⟨h1,hW.trans (h2.mono hW.size),((hW.trans (h2.mono hW.size)).cell (p:=⟨wr.heap.size,0,none⟩) hAz).trans hA0,((hW.trans (h2.mono hW.size)).cell (p:=⟨wr.heap.size,1,none⟩) hAz).trans hA1⟩
    have HPat:Hid (∀W,Below (wr.alloc (.cells #[v,u] 104)).drew.heap.size (wr.alloc (.cells #[v,u] 104)).drew W->Calls Tryz.prog 100 #[u] W fun e w'=>e= .returned (.int .i64 (Yy 7 t[k].2))/\Below (wr.alloc (.cells #[v,u] 104)).drew.heap.size (wr.alloc (.cells #[v,u] 104)).drew w'/\w'.cell? ⟨wr.heap.size,0,none⟩=some v/\w'.cell? ⟨wr.heap.size,1,none⟩=some u):=Zh fun W hW=>
     (Yfz t[k].2 u W (hU.below (hS.below.trans ((hA.trans (hW.mono hA.size)).mono hS.below.size)) (fun _ _ _=>trivial)) fu.1 fu.2).mono fun e w' ⟨h1,h2⟩=>⟨h1,hW.trans (h2.mono hW.size),((hW.trans (h2.mono hW.size)).cell (p:=⟨wr.heap.size,0,none⟩) hAz).trans hA0,((hW.trans (h2.mono hW.size)).cell (p:=⟨wr.heap.size,1,none⟩) hAz).trans hA1⟩
    obtain⟨av,cv,rfl⟩:=hV.form;obtain⟨au,cu,rfl⟩:=hU.form;have hEQ:R=orC (orC (Yy 8 t[k].1) (Yy 7 t[k].2)) (orC (J5 (t.drop (k+1))) X):=by
     rw[hS.eq,List.drop_eq_getElem_cons hk];show orC (orC (orC (Yy 8 t[k].1) (Yy 7 t[k].2)) (J5 (t.drop (k+1)))) X=_;exact Yb6 _ _ _
    have HEQ:=Zh hEQ;have HA:=Zh hA;generalize Yy 8 t[k].1=EA at HRes hEQ HEQ;generalize Yy 7 t[k].2=EB at HPat hEQ HEQ;generalize t[k].1.len=la at d0 HRes HPat HA hA0 hA1 hAz;generalize t[k].2.len=lb at d1 HRes HPat HA hA0 hA1 hAz;clear hV hU fv fu hv hu hat n1 htat hEQ hgl hA hA0 hA1 hAz;go_wp2_with fail;go_region_law (first
     |(go_simp; go_at_call 101; refine(HRes.out _ (by first | exact Below.refl _ _ | assumption)).mono ?_; rintro e w' ⟨rfl,hbn,x0,x1⟩)
     |(go_simp; go_at_call 100; refine(HPat.out _ (by first | exact Below.refl _ _ | assumption)).mono ?_; rintro e w' ⟨rfl,hbn,x0,x1⟩)
     |(go_simp; go_at_call 50; refine(YnD _ _ _).mono ?_; rintro e w' ⟨rfl,hbf⟩; have hbz:=Zh (HA.out.trans ((hbn.trans (hbf.mono hbn.size)).mono HA.out.size))))
    all_goals
     clear HRes HPat x0 x1 hbn hbf HA d0 d1;generalize orC EA EB=E at HEQ;by_cases he:E=0
     ·subst he;have HN:Hid (FmT w1 R X t (some ⟨g,o,none⟩) w' (k+1)):=Zh ⟨hS.below.trans (hbz.out.mono hS.below.size),hk,HEQ.out⟩;clear HEQ hbz;go_wp2;go_roundw
      case rel=>exact⟨k+1,by go_num,HN.out⟩
      case measure=>simp[intOf]; omega
     ·have hc:(E != 0)=true:=by simpa using he
      have HXX:Hid (R=E):=Zh (by rw[HEQ.out]; unfold orC; rw[if_neg he]);have HB:=Zh (HW.out.trans ((hS.below.trans (hbz.out.mono hS.below.size)).mono HW.out.size));clear he HEQ hbz;go_wp2;go_ret;exact⟨by rw[HXX.out]; rfl,HB.out⟩
   ·have l0:decide ((k:Int)<(t.length:Int))=false:=Zf;have l1:decide (k<t.length)=false:=decide_eq_false hk;have HX2:Hid (R=Yec blocks r sb bl):=Zh (by rw[hS.eq,List.drop_eq_nil_of_le Zo,<-HX.out]; rfl);have HW2:=Zh (HW.out.trans (hS.below.mono HW.out.size));obtain⟨n1,_,h2,h3,h4⟩:=HR2.out;have n2:=(hS.below.block _ (Zg n1).1).trans n1;have h2:=h2.below hS.below (fun _ _ _=>trivial);have h3:=h3.below hS.below (fun _ _ _=>trivial);have h4:=SsV.keep (T:=fun _=>True) h4 (fun k _ hk=>hS.below.block k hk) (fun _ _ _=>trivial);have e2:wr.cell? ⟨w.heap.size,2,none⟩=some (.slice a2 r.len c2):=by simp[World.cell?,n2]
    have e3:wr.cell? ⟨w.heap.size,3,none⟩=some (.slice a3 sb.len c3):=by simp[World.cell?,n2]
    have e4:wr.cell? ⟨w.heap.size,4,none⟩=some (.slice a4 bl.len c4):=by simp[World.cell?,n2]
    have hU:∀(b:Bool) (c:Int) (W:World),Calls Tryz.prog 51 #[.bool b,.int .i64 c] W fun e w'=>e= .returned (.int .i64 (unC b c))/\w'=W:=fun b c W=>Ydu b c W;have HU:=Zh hU;clear n1 hS HX HR2 HW hU;by_cases hbl:bl.len=0
    ·have q0:((bl.len:Int)==0)=true:=by simpa using hbl
     have hX3:R=orC (unC (decide (sb.len=0)) 2) (Yy 8 r):=by
      rw[HX2.out]; unfold Yec unC; rw[if_pos hbl]; simp
     have q1:((sb.len:Int)==0)=decide (sb.len=0):=by rw[Bool.eq_iff_iff,beq_iff_eq,decide_eq_true_eq]; omega
     have HRes:Hid (∀W,Below wr.drew.heap.size wr.drew W->Calls Tryz.prog 101 #[.slice a2 r.len c2] W fun e w'=>e= .returned (.int .i64 (Yy 8 r))/\Below wr.drew.heap.size wr.drew w'/\w'.cell? ⟨w.heap.size,3,none⟩=some (.slice a3 sb.len c3)):=Zh fun W hW=>
      (Ycq r _ W (h2.below (w':=W) ((below_drewN (Below.refl _ wr) 1).trans hW) (fun _ _ _=>trivial)) g2.1 g2.2).mono fun e w' ⟨q1,q2⟩=>⟨q1,hW.trans (q2.mono hW.size),((hW.trans (q2.mono hW.size)).cell (p:=⟨w.heap.size,3,none⟩) (Zg n2).1).trans e3⟩
     have HX3:=Zh hX3;have HA:Hid (Below wr.heap.size wr wr.drew):=Zh (below_drewN (Below.refl _ _) 1);clear hX3 h2 h3 h4 n2 hbl HX2;generalize decide (sb.len=0)=B at q1 HX3;generalize Yy 8 r=E at HX3 HRes;go_wp2_with fail;go_region_law (first
      |(go_simp; go_at_call 101; refine(HRes.out _ (by first | exact Below.refl _ _ | assumption)).mono ?_; rintro e w' ⟨rfl,hbn,e3⟩)
      |(go_simp; go_at_call 51; refine(HU.out _ _ _).mono ?_; rintro e wu ⟨rfl,rfl⟩)
      |(go_simp; go_at_call 50; refine(YnD _ _ _).mono ?_; rintro e w2 ⟨rfl,hbf⟩; have hbz:=Zh (HA.out.trans ((hbn.trans (hbf.mono hbn.size)).mono HA.out.size))))
     all_goals
      have HB:=Zh (HW2.out.trans (hbz.out.mono HW2.out.size));clear HRes hbn hbf hbz HA;go_wp2;go_ret;exact⟨by rw[HX3.out]; rfl,HB.out⟩
    ·have q0:((
               bl.len:Int)==0)=false:=by simpa using hbl
     have hX3:R=orC (unC (decide (r.len=0)) 2) (orC (unC (decide ((blocks:Int)<6)) 6) (orC (Yy 8 sb) (Ss.form (blocks+1) bl))):=by
      rw[HX2.out]; unfold Yec unC; rw[if_neg hbl];have:decide ((blocks:Int)<6)=decide (blocks<6):=by rw[decide_eq_decide]; omega
      rw[this]; simp
     have q1:((r.len:Int)==0)=decide (r.len=0):=by rw[Bool.eq_iff_iff,beq_iff_eq,decide_eq_true_eq]; omega
     have HRes:Hid (∀W,Below wr.drew.heap.size wr.drew W->Calls Tryz.prog 101 #[.slice a3 sb.len c3] W fun e w'=>e= .returned (.int .i64 (Yy 8 sb))/\Below wr.drew.heap.size wr.drew w'/\w'.cell? ⟨w.heap.size,2,none⟩=some (.slice a2 r.len c2)):=Zh fun W hW=>
      (Ycq sb _ W (h3.below (w':=W) ((below_drewN (Below.refl _ wr) 1).trans hW) (fun _ _ _=>trivial)) g3.1 g3.2).mono fun e w' ⟨q1,q2⟩=>⟨q1,hW.trans (q2.mono hW.size),((hW.trans (q2.mono hW.size)).cell (p:=⟨w.heap.size,2,none⟩) (Zg n2).1).trans e2⟩
     have HA:Hid (Below wr.heap.size wr wr.drew):=Zh (below_drewN (Below.refl _ _) 1);have HF:=Zh (And.intro n2 h4);have HY:Hid (R=orC (orC (unC (decide (r.len=0)) 2) (orC (unC (decide ((blocks:Int)<6)) 6) (Yy 8 sb))) (Ss.form (blocks+1) bl)):=Zh (by rw[hX3,Yb6,Yb6]);have HBK:Hid (orC (unC (decide (r.len=0)) 2) (orC (unC (decide ((blocks:Int)<6)) 6) (Yy 8 sb))=0->blocks<6):=Zh fun q=>by
      have q2:=(Ye.1 (Ye.1 q).2).1;refine Decidable.byContradiction fun q3=>?_;unfold unC at q2;rw[Zf] at q2;cases q2
     clear hX3 h2 h3 h4 n2 hbl HX2;generalize decide (r.len=0)=B at q1 HY HBK;generalize Yy 8 sb=E at HY HBK HRes;generalize hbd:decide ((blocks:Int)<6)=B2 at HY HBK;go_wp2_with fail;go_region_law (first
      |(go_simp; go_at_call 101; refine(HRes.out _ (by first | exact Below.refl _ _ | assumption)).mono ?_; rintro e w' ⟨rfl,hbn,e2⟩)
      |(go_simp; go_at_call 51; refine(HU.out _ _ _).mono ?_; rintro e wu ⟨rfl,rfl⟩)
      |(go_simp; go_at_call 50; refine(Yq2 _ _ _ _).mono ?_; rintro e w2 ⟨rfl,hbf⟩; have hbz:=Zh (HA.out.trans ((hbn.trans (hbf.mono hbn.size)).mono HA.out.size))))
     all_goals
      have hbw:=hbz.out;have HB:=Zh (HW2.out.trans (hbw.mono HW2.out.size));obtain⟨n2,h4⟩:=HF.out;have HV4:=Zh (SsV.keep (T:=fun _=>True) h4 (fun k _ hk=>hbw.block k hk) (fun _ _ _=>trivial));have n3:=(hbw.block _ (Zg n2).1).trans n2;have e4:w2.cell? ⟨w.heap.size,4,none⟩=some (.slice a4 bl.len c4):=by simp[World.cell?,n3]
      clear HRes hbn hbf hbz HA HF e2 e3 n2 n3 h4 hbw q0 q1 HU;generalize orC (unC B 2) (orC (unC B2 6) E)=E1 at HY HBK;by_cases he:E1=0
      ·have hb6:=HBK.out he;subst he;have hst:FmS w2 R (blocks+1) bl a4 w2 0 bl:=⟨Below.refl _ _,Nat.zero_add _,Nat.le_refl _,fun q=>by
        obtain⟨a,c,e,hh⟩:=HV4.out;cases e;obtain⟨g,o,e2,_,hat⟩:=hh q;exact⟨g,o,e2,by simpa using hat⟩,g4.1,HY.out⟩
       clear HY HBK;go_wp2_with fail;go_loopw [71] (fun i wx=>∃(k:Nat) (rest:Ss),i= .int .i64 k/\FmS w2 R (blocks+1) bl a4 wx k rest) (fun i _=>bl.len - (intOf i).toNat)
       case atStart=>exact⟨0,bl,rfl,hst⟩
       case round=>
        clear hst e4;obtain⟨k,rest,rfl,hS⟩:=hrel;cases rest with
        |
         nil=>
         have hk:k=bl.len:=by have:=hS.len; simpa[Ss.len] using this
         have l0:decide ((k:Int)<(bl.len:Int))=false:=Zf;have HX5:Hid (R=0):=Zh hS.eq;have HBB:=Zh (HB.out.trans (hS.below.mono HB.out.size));clear hS;subst hk;go_wp2;go_ret;exact⟨by rw[HX5.out]; rfl,HBB.out⟩
        |
         cons xl xt xr xs xb rest=>
         have hkl:=hS.len;simp only[Ss.len] at hkl;have l0:decide ((k:Int)<(bl.len:Int))=true:=Zt;have l1:decide (k<bl.len)=true:=Zt;obtain⟨g,o,rfl,⟨v0,q0,hv0⟩,⟨v1,q1,hv1⟩,⟨v2,q2,hv2⟩,⟨v3,q3,hv3⟩,⟨a5,c5,q4,hv4⟩,hrest⟩:=hS.tail (fun q=>by cases q);obtain⟨u0,u1,u2,u3,u4,u5⟩:=hS.fine;have hgl:=World.block_lt_of_cell? w2 _ q0;have p0:=(hS.below.cell (p:=⟨g,o+k*5,none⟩) hgl).trans q0;have p1:=(hS.below.cell (p:=⟨g,o+k*5+1,none⟩) hgl).trans q1;have p2:=(hS.below.cell (p:=⟨g,o+k*5+2,none⟩) hgl).trans q2;have p3:=(hS.below.cell (p:=⟨g,o+k*5+3,none⟩) hgl).trans q3;have p4:=(hS.below.cell (p:=⟨g,o+k*5+4,none⟩) hgl).trans q4;have hsz:=hS.sz;simp only[Ss.sz] at hsz;obtain⟨av0,cv0,rfl⟩:=hv0.form;obtain⟨av1,cv1,rfl,hh1⟩:=hv1;obtain⟨av2,cv2,rfl⟩:=hv2.form;obtain⟨av3,cv3,rfl⟩:=hv3.form;have hIH:∀W,Below wr.heap.size wr W->Calls Tryz.prog 52 #[.agg #[.slice av0 xl.len cv0,.slice av1 xt.length cv1,.slice av2 xr.len cv2,.slice av3 xs.len cv3,.slice a5 xb.len c5],.int .i64 ((blocks:Int)+1)] W (FmQ (Yee (blocks+1) xl xt xr xs xb) W):=fun W hW=>by
          have hBW:=hS.below.trans (hW.mono hS.below.size);have h:=IH.out xl xt xr xs xb _ _ _ _ _ (blocks+1) W Zo (hv0.below hBW (fun _ _ _=>trivial)) (Y3.keep (T:=fun _=>True) ⟨av1,cv1,rfl,hh1⟩ (fun k _ hk=>hBW.block k hk) (fun _ _ _=>trivial))
           (hv2.below hBW (fun _ _ _=>trivial)) (hv3.below hBW (fun _ _ _=>trivial)) (SsV.keep (T:=fun _=>True) ⟨a5,c5,rfl,hv4⟩ (fun k _ hk=>hBW.block k hk) (fun _ _ _=>trivial)) u0 u1 u2 u3 u4 Zo
          exact h
         have hEQ:R=orC (Yee (blocks+1) xl xt xr xs xb) (Ss.form (blocks+1) rest):=hS.eq;have hI:=hIH _ (below_alloc1 wr (.cells #[.slice av0 xl.len cv0,.slice av1 xt.length cv1,.slice av2 xr.len cv2,.slice av3 xs.len cv3,.slice a5 xb.len c5] 39));have HBA:=Zh (below_alloc1 wr (.cells #[.slice av0 xl.len cv0,.slice av1 xt.length cv1,.slice av2 xr.len cv2,.slice av3 xs.len cv3,.slice a5 xb.len c5] 39));have HEQ:=Zh hEQ;have HI:=Zh hI;generalize Yee (blocks+1) xl xt xr xs xb=E2 at HEQ HI;have HT:=Zh (And.intro hrest u5);clear hIH hI hEQ hv0 hv2 hv3 hv4 hh1 q0 q1 q2 q3 q4 u0 u1 u2 u3 u4 u5 hrest hgl;go_wp2_with fail;refine HI.out.mono ?_;rintro e w5 ⟨rfl,hb5⟩;have hB5:=HBA.out.trans (hb5.mono HBA.out.size);by_cases he2:E2=0
         ·subst he2;have HN:Hid (FmS w2 R (blocks+1) bl (some ⟨g,o,none⟩) w5 (k+1) rest):=Zh ⟨hS.below.trans (hB5.mono hS.below.size),by omega,by omega,fun _=>⟨g,o,rfl,by rw[show o+(k+1)*5=o+k*5+5 by omega]; exact HT.out.1⟩,HT.out.2,HEQ.out⟩;clear HEQ HI hb5 hB5 HT;go_wp2;go_roundw
          case rel=>exact⟨k+1,rest,by go_num,HN.out⟩
          case measure=>simp[intOf]; omega
         ·have hc2:(E2 != 0)=true:=by simpa using he2
          have HX6:Hid (R=E2):=Zh (by rw[HEQ.out]; unfold orC; rw[if_neg he2]);have HBB:=Zh (HB.out.trans ((hS.below.trans (hB5.mono hS.below.size)).mono HB.out.size));clear he2 HEQ HI hb5 hB5 HT;go_wp2;go_ret;exact⟨by rw[HX6.out]; rfl,HBB.out⟩
      ·have hc:(E1 != 0)=true:=by simpa using he
       have HX4:Hid (R=E1):=Zh (by rw[HY.out]; unfold orC; rw[if_neg he]);clear he HY HBK e4;go_wp2;go_ret;exact⟨by rw[HX4.out]; rfl,HB.out⟩
 ·have hc:(E0 != 0)=true:=by simpa using he0
  have HX:Hid (R=E0):=Zh (by rw[HS.out]; unfold orC; rw[if_neg he0]);have HB:=Zh (HH.out.1.trans (hb1.mono HH.out.1.size));clear he0 hb1 HS;go_wp2;go_ret;exact⟨by rw[HX.out]; rfl,HB.out⟩
theorem Ygo:∀(m:Nat) (l:Ts) (t:List (Ts×Ts)) (r sb:Ts) (bl:Ss) (v0 v1 v2 v3 v4:Value) (blocks:Nat) (w:World),bl.sz<m->TsV w (fun _=>True) v0 l->Y3 w (fun _=>True) v1 t->TsV w (fun _=>True) v2 r->TsV w (fun _=>True) v3 sb->SsV w (fun _=>True) v4 bl->
 l.fine->(JU t/\t.length<=1000000000000)->r.fine->sb.fine->(bl.fine/\bl.len<=1000000000000)->blocks<=6->Calls Tryz.prog 52 #[.agg #[v0,v1,v2,v3,v4],.int .i64 blocks] w (FmQ (Yee blocks l t r sb bl) w)
 |0,_,_,_,_,_,_,_,_,_,_,_,_,h=>by omega
 |m+1,l,t,r,sb,bl,v0,v1,v2,v3,v4,blocks,w,h=>fun h0 h1 h2 h3 h4 g0 g1 g2 g3 g4 hb=>YnC m (Ygo m) l t r sb bl v0 v1 v2 v3 v4 blocks w h h0 h1 h2 h3 h4 g0 g1 g2 g3 g4 hb
end Go.Proofs.YteamjdmhdfjopaaGreatDoor
