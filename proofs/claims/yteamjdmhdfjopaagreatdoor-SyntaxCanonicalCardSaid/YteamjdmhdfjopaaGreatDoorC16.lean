/- A part of the proof; it holds the texts Siz Exp (names and blanks shortened). -/
import Derived.Test.YteamjdmhdfjopaaGreatDoorC15
import Derived.Test.YteamjdmhdfjopaaGreatDoorC5
import Derived.Shelf.Abstract
import Derived.RangeFuncCalls
import Derived.Deep.RegionLaw
namespace Go.Proofs.YteamjdmhdfjopaaGreatDoor
open Go.RowKit
set_option maxRecDepth 100000
set_option maxHeartbeats 8000000
set_option linter.unusedVariables false
set_option linter.unusedSimpArgs false
section
open Go.RowKit Go.Shelf
attribute [local go_sem] Oper.semAt_some
theorem count_any (nb:Nat)(n:Int)(w:World)(h0:0<=n)(h1:n<=10000000000000)(hc:w.heap[nb]? =some (.cells #[.int .i64 n] 3 (0,0))):
 Calls Tryz.prog 192 #[.pointer (some ⟨nb,0,none⟩)] w fun e w'=>e= .returned (.tuple #[])/\w'=w.setCell ⟨nb,0,none⟩ (.int .i64 (n+1)):=by
 have c0:w.cell? ⟨nb,0,none⟩=some (.int .i64 n):=by simp[World.cell?,hc]
 have f0:w.frozen? ⟨nb,0,none⟩=false:=by simp[World.frozen?,hc]
 have a0:(0:Int)<=n+1:=Zo;have a1:n+1<=10000000000001:=Zo;go_enter Tryz.func192,Tryz.ntmps192;go_wp2;go_end0
 exact⟨rfl,rfl⟩
theorem setB {W:World}{g:Nat}{old:Value}{t:TypeId}(h:W.heap[g]? =some (.cells #[old] t (0,0)))(new:Value):(W.setCell ⟨g,0,none⟩ new).heap[g]? =some (.cells #[new] t (0,0)):=by
 have:=heap_setCell_same W g 0 _ _ new h;simpa using this
theorem Keep.putObj3 (w:World)(l:Nat)(o:Obj):Keep (fun k=>k=l) w (w.putObj l o):=
 ⟨rfl,rfl,rfl,by simp,fun k _ n=>World.putObj_heap_other n⟩
def SizQ (a:Act)(U:World)(nb:Nat)(n:Int):Exit->Act->World->Prop
 |.normal,a',w'=>a'=a/\∃w2,Below U.heap.size U w2/\w'=w2.setCell ⟨nb,0,none⟩ (.int .i64 n)
 |_,_,_=>False
theorem YbD {U w':World}(h:Below U.drew.heap.size U.drew w'):Below U.heap.size U w':=⟨h.os,h.tape,h.output,h.size,h.block⟩
theorem Ypu (T:Ts)(v:Value)(w:World)(hT:TsV w (fun _=>True) v T)(hbig:T.nodes<=1000000000000):
 Calls Tryz.prog 139 #[v] w fun e w'=>e= .returned (.tuple #[.int .i64 T.nodes,.int .i64 T.deep])/\Below w.heap.size w w':=by
 have hD:=fun w' hb=>YiL (fun _=>True) (T.nodes+1) T v w' Zo (hT.below hb (fun _ _ _=>trivial)) hbig;obtain⟨ao,cap,rfl⟩:=hT.form;have HD:Hid _:=hD;clear hD;have hFn:∀f,Fence.wide.fn f:=fun _=>trivial;refine callsIn_wide.1 (callsIn_of_wp_marks (n:=6) Tryz.func139 rfl trivial ?_);simp only[Tryz.ntmps139,List.size_toArray,List.length_cons,List.length_nil,Nat.reduceAdd,Nat.reduceSub,Array.replicate_succ,Array.replicate_zero,List.push_toArray,List.append_toArray,List.nil_append,List.cons_append];refine wpIn_wide.2 ?_;go_wp2_with fail;refine(YjJ _ _ _ _).mono ?_;rintro e w2 ⟨rfl,rfl⟩;go_wp2_with fail;obtain⟨W0,hW0⟩:∃W0,W0=((w.alloc (.cells #[.int .i64 0] 3)).alloc (.cells #[.func (.func 192) #[] #[.pointer (some ⟨w.heap.size,0,none⟩)]] 1)).alloc (.cells #[.slice ao T.len cap] 35):=⟨_,rfl⟩;have n0:=heap_alloc_new w (.cells #[.int .i64 0] 3);have hb1:=below_alloc1 w (.cells #[.int .i64 0] 3);have z1:(w.alloc (.cells #[.int .i64 0] 3)).heap.size=w.heap.size+1:=Zs;rw[<-hW0];generalize w.alloc (.cells #[.int .i64 0] 3)=W1 at n0 hb1 z1 hW0;have n1:=heap_alloc_new W1 (.cells #[.func (.func 192) #[] #[.pointer (some ⟨w.heap.size,0,none⟩)]] 1);have hb2:=below_alloc1 W1 (.cells #[.func (.func 192) #[] #[.pointer (some ⟨w.heap.size,0,none⟩)]] 1);have z2:(W1.alloc (.cells #[.func (.func 192) #[] #[.pointer (some ⟨w.heap.size,0,none⟩)]] 1)).heap.size=w.heap.size+2:=by simp[z1]
 generalize W1.alloc (.cells #[.func (.func 192) #[] #[.pointer (some ⟨w.heap.size,0,none⟩)]] 1)=W2 at n1 hb2 z2 hW0;have n2:=heap_alloc_new W2 (.cells #[.slice ao T.len cap] 35);have hb3:=below_alloc1 W2 (.cells #[.slice ao T.len cap] 35);have z3:(W2.alloc (.cells #[.slice ao T.len cap] 35)).heap.size=w.heap.size+3:=by simp[z2]
 rw[<-hW0] at n2 hb3 z3;clear hW0;rw[z1] at n1;rw[z2] at n2;have m1:=(hb3.block (w.heap.size+1) Zo).trans n1;have m0:=(hb3.block w.heap.size Zo).trans ((hb2.block w.heap.size Zo).trans n0);have hB:Below w.heap.size w W0:=hb1.trans ((hb2.mono Zo).trans (hb3.mono Zo));clear n0 hb1 n1 hb2 hb3 z1 z2;have cl:W0.cell? ⟨w.heap.size+2,0,none⟩=some (.slice ao T.len cap):=by simp[World.cell?,n2]
 have hT0:TsV W0 (fun k=>¬k=w.heap.size) (.slice ao T.len cap) T:=hT.below hB (fun k _ hk=>by omega);refine(wpIn_wide (n:=6)).1 ?_;refine wpIn_rangeFunc_ownF rfl Zd (gf:=221) (lb:=#[.pointer (some ⟨w.heap.size+2,0,none⟩)]) rfl trivial (enters_of Tryz.func221 (by kernel_rfl) rfl)
  (all_stops (w.heap.size+2) (w.heap.size+2) (fun k=>k=w.heap.size) T _ W0 (fun k q=>by omega) Zo hbig cl hT0 Zo) (fun h k=>h.trans k) (fun W l o o' _ ho hc _=>KpC.putObj o' ho hc) (Below.refl _ _) (fun _=>rfl)
  (fun pre W=>W.heap[w.heap.size]? =some (.cells #[.int .i64 pre.length] 3 (0,0))/\W.heap[w.heap.size+1]? =some (.cells #[.func (.func 192) #[] #[.pointer (some ⟨w.heap.size,0,none⟩)]] 1 (0,0))/\Below w.heap.size w W)
  (fun _ _ _=>False)
  (fun s A A' row hs hg hr=>⟨(hg.block _ (Zg hs.1).1 (fun e=>by have:=(hr _ e.symm).1; omega)).trans hs.1,(hg.block _ (Zg hs.2.1).1 (fun e=>by have:=(hr _ e.symm).1; omega)).trans hs.2.1,hs.2.2.grown hg hs.2.2.size (fun k e=>by have:=(hr _ e).1; omega)⟩)
  (fun _ _ _ _ _ hs _ _=>hs) ⟨m0,m1,hB⟩
  (fun x=>{ tmps:=#[.slice ao T.len cap,undef,.pointer (some ⟨w.heap.size,0,none⟩),.int .i64 0,.pointer (some ⟨w.heap.size+1,0,none⟩),.func (.func 192) #[] #[.pointer (some ⟨w.heap.size,0,none⟩)],.slice ao T.len cap,.func (.func 221) #[] #[.pointer (some ⟨w.heap.size+1+1,0,none⟩)],itV x,undef,undef,undef,undef,undef],defers:=[] }) ?assign ?body ?done ?stop
 case assign=>
  intro l x W K hK;gi_wp2
  simpa using hK
 case body=>
  rintro l pre x W ⟨h0,h1,hb⟩ hlen;have c1:W.cell? ⟨w.heap.size+1,0,none⟩=some (.func (.func 192) #[] #[.pointer (some ⟨w.heap.size,0,none⟩)]):=by simp[World.cell?,h1]
  have hC:=count_any w.heap.size (pre.length:Int) W Zo Zo h0;have HC:=Zh hC;have H0:=Zh h0;have H1:=Zh h1;clear hC h0 h1;have hFn:∀f,(Fence.wide.inRound l).fn f:=fun _=>trivial;gi_wp2_with fail
  refine(CallsIn.inRound l (callsIn_wide.2 HC.out)).mono ?_;rintro e w' ⟨rfl,rfl⟩;gi_wp2
  have hK:=Keep.of_setCell W ⟨w.heap.size,0,none⟩ (.int .i64 ((pre.length:Int)+1));refine⟨KeepsOthers.setCell _ _ _,KpC.of_keep hK,?_,?_,hb.setCell (Nat.le_refl _) _⟩
  ·have:=heap_setCell_same W w.heap.size 0 _ _ (.int .i64 ((pre.length:Int)+1)) H0.out;rw[List.length_append,List.length_singleton];simpa using this
  ·exact(hK.block _ (Zg H1.out).1 (by show ¬w.heap.size+1=w.heap.size; omega)).trans H1.out
 case done=>
  rintro D xs W hDl hxs ⟨h0,h1,hb⟩ hD;have hlen:xs.length=T.nodes:=YdP T xs hxs;have c0:W.cell? ⟨w.heap.size,0,none⟩=some (.int .i64 T.nodes):=by simp[World.cell?,h0,hlen]
  have f0:W.frozen? ⟨w.heap.size,0,none⟩=false:=by simp[World.frozen?,h0]
  have hI:=HD.out W hb;have HI:=Zh hI;have H0:=Zh h0;have HDD:=Zh hD;have HB:=Zh hb;have hlt:w.heap.size<W.heap.size:=(Zg h0).1;clear hI h0 h1 hD hb HI hT0 hT m0 m1 cl n2;dsimp only;go_wp2_with fail;refine Code.wp_mono (Q:=SizQ { tmps:=#[.slice ao T.len cap,undef,.pointer (some ⟨w.heap.size,0,none⟩),.int .i64 T.deep,.pointer (some ⟨w.heap.size+1,0,none⟩),.func (.func 192) #[] #[.pointer (some ⟨w.heap.size,0,none⟩)],.slice ao T.len cap,.func (.func 221) #[] #[.pointer (some ⟨w.heap.size+1+1,0,none⟩)],undef,undef,undef,.int .i64 T.nodes,.slice ao T.len cap,.int .i64 T.deep],defers:=[{ target:=.collected D,args:=#[] }] } W w.heap.size T.nodes) ?m ?r
  case r=>
   go_region_with ((go_at_call 187; refine(HD.out _ (by first | exact HB.out | exact below_drewN HB.out _ | exact below_drewN HB.out 1)).mono ?_; rintro e w' ⟨rfl,hb'⟩; have c0:=(hb'.cell (p:=⟨w.heap.size,0,none⟩) (by simpa using hlt)).trans c0; have f0:=(hb'.frozen (p:=⟨w.heap.size,0,none⟩) (by simpa using hlt)).trans f0))
   all_goals exact⟨rfl,w',YbD hb',rfl⟩
  case m=>
   intro e a' w' hq;cases e with
   |
    normal=>
    obtain⟨rfl,w2,hb2,rfl⟩:=hq;have hDl2:D<W.heap.size:=(Zg HDD.out).1;have hD2:(w2.setCell ⟨w.heap.size,0,none⟩ (.int .i64 T.nodes)).heap[D]? =some (.deferred (some [])):=((Keep.of_setCell w2 ⟨w.heap.size,0,none⟩ (.int .i64 T.nodes)).block D (by have:=hb2.size; omega) (by show ¬D=w.heap.size; omega)).trans ((hb2.block D hDl2).trans HDD.out);have n3:=setB ((hb2.block w.heap.size hlt).trans H0.out) (.int .i64 T.nodes);have hbf:Below w.heap.size w (w2.setCell ⟨w.heap.size,0,none⟩ (.int .i64 T.nodes)):=(HB.out.trans (hb2.mono HB.out.size)).setCell (Nat.le_refl _) _;generalize w2.setCell ⟨w.heap.size,0,none⟩ (.int .i64 T.nodes)=W3 at hD2 n3 hbf⊢;go_wp2;have K:=Keep.putObj3 W3 D (.deferred none);have hbl:=hbf.trans (K.below hbf.size (fun i hi q=>by omega));have n4:=(K.block w.heap.size (Zg n3).1 Zo).trans n3;have c4:(W3.putObj D (.deferred none)).cell? ⟨w.heap.size,0,none⟩=some (.int .i64 T.nodes):=by simp[World.cell?,n4]
    refine⟨by simp,.inl ⟨D,_,rfl,run_takeDeferred hD2,?_⟩⟩;refine⟨.tuple #[.int .i64 T.nodes,.int .i64 T.deep],?_,rfl,hbl⟩;change Sem.run _ _ (W3.putObj D (.deferred none))= .ok _ (W3.putObj D (.deferred none));clear hbl n4 K hD2 n3 hbf;generalize W3.putObj D (.deferred none)=V at c4⊢;simp[results,Tryz.f139,go_sem,c4]
   |_=>exact hq.elim
 case stop=>
  rintro D c pre W _ _ h _;exact h.elim
end
theorem Yeu (hV:J3)(B rb:Nat)(ao:Option Addr)(cap:Nat)(L:List Tk)(en:Nat)(pat:Bool)(i:Nat)(w:World)(h:Yp B w rb ao cap L en i):
 Calls Tryz.prog 102 #[.pointer (some ⟨rb,0,none⟩),.bool pat] w (Ydo B rb ao cap L en w (Jo L en pat i)):=by
 have hT:=YhI hV B rb ao cap L en pat (L.length+1) i (L.length+1) 0 w Zo Zo Zo h;have hsm:∀l j,Yc L en pat (L.length+1) 0 i .nil= .ok l j->j<=L.length->l.nodes<=1000000000000:=fun l j e hj=>by
  have h1:=Ybo h.small _ _ _ _ _ _ e;have h2:(j - i)*40001<=40000*40001:=Nat.mul_le_mul_right _ (by have:=h.few; omega);simp only[Ts.nodes] at h1;omega
 have HR:Hid (Jo L en pat i=(Yc L en pat (L.length+1) 0 i .nil).bind fun l j=>if 4000<l.nodes then JA L en j 5 else .ok l j):=rfl;generalize Jo L en pat i=R at HR⊢;generalize Yc L en pat (L.length+1) 0 i .nil=T at hT HR hsm;have HS:Hid _:=hsm;have hw:=h.size;have hrb:=h.low;clear hsm h;go_enter Tryz.func102,Tryz.ntmps102;go_wp2_with fail;refine hT.mono ?_;clear hT;intro e w1 hP;cases T with
 |
  bad a c=>
  obtain⟨hK,rfl⟩:=hP;refine⟨rfl,?_⟩;rw[HR.out];exact⟨hK,rfl⟩
 |
  ok l j=>
  obtain⟨hK,v,rfl,hv,hR⟩:=hP;have HN:Hid (R=if 4000<l.nodes then JA L en j 5 else .ok l j):=HR;have hsz:=HS.out l j rfl hR.le;clear HR HS;have hS:=Ypu l v w1 (hv.to (fun _ _ _=>trivial)) hsz;obtain⟨ao2,cap2,rfl⟩:=hv.form;have HV:=Zh hv;have HK:=Zh hK;clear hv hK;by_cases hb:4000<l.nodes
  ·have d0:decide ((4000:Int)<(l.nodes:Int))=true:=Zt;have HN2:Hid (R= .bad (Yby L en j) (YdU L j 5)):=Zh (by rw[HN.out,if_pos hb]; rfl);clear HN;go_wp2_with fail;refine hS.mono ?_;clear hS;rintro e w2 ⟨rfl,hb2⟩;have hF:=Yae B rb ao cap L en j 5 w2 (hR.below hb2);have HK2:=Zh (HK.out.trans (Keep.of_below (S:=fun _=>False) hb2) (fun _ _ q=>q.elim));clear hb2 HK;go_wp2_with fail;refine hF.mono ?_;rintro e w3 ⟨rfl,hk3⟩;refine⟨rfl,?_⟩;rw[HN2.out];exact⟨HK2.out.trans hk3 (fun _ _ q=>q.elim),rfl⟩
  ·have d0:decide ((4000:Int)<(l.nodes:Int))=false:=Zf;have HN2:Hid (R= .ok l j):=Zh (by rw[HN.out,if_neg hb]);clear HN;go_wp2_with fail;refine hS.mono ?_;clear hS;rintro e w2 ⟨rfl,hb2⟩;have HK2:=Zh (HK.out.trans (Keep.of_below (S:=fun _=>False) hb2) (fun _ _ q=>q.elim));have HV2:=Zh (HV.out.below hb2 (fun _ q _=>q));have HR2:=Zh (hR.below hb2);clear hb2 HK HV hR;go_wp2_with fail;go_ret;rw[HN2.out];exact⟨HK2.out,_,rfl,HV2.out,HR2.out⟩
end Go.Proofs.YteamjdmhdfjopaaGreatDoor
