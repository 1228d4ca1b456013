/- A part of the proof; it holds the texts Scy Scn (names and blanks shortened). -/
import Derived.Test.YteamjdmhdfjopaaGreatDoorC30
import Derived.OwnWalkIn
import Derived.Shelf.RegionOpen
import Derived.RangeFuncCalls
import Derived.RangeFuncBox
namespace Go.Proofs.YteamjdmhdfjopaaGreatDoor
open Go.RowKit
set_option maxRecDepth 100000
set_option maxHeartbeats 8000000
set_option linter.unusedVariables false
set_option linter.unusedSimpArgs false
set_option linter.unnecessarySimpa false
section
attribute [local go_sem] Oper.semAt_some
def YfG (fn:FuncId)(tmps:Array Value)(ps:Array Tmp)(assign body:Code)(D:Nat)(st:LoopState)(pe:Option Code):Loop:={ state:=st,pending:=pe,fn,tmps,params:=ps,assign,body,defers:=D }
theorem Yhu {P:Program}{l m:Nat}{W:World}{fn:FuncId}{tmps:Array Value}{ps:Array Tmp}{assign body:Code}{D:Nat}{args:Array Value}{R:Ending->World->Prop}
 (hl:W.heap[l]? =some (.loop (YfG fn tmps ps assign body D .ready none)))(hps:args.size=ps.size)
 (h:assign.wpIn (Fence.wide.inRound l) m P (Exit.then (fun a₁ w₁=>∃w₂,(Instr.beginRound l).run P w₁= .ok () w₂/\body.wpIn (Fence.wide.inRound l) m P (roundPost P l R) a₁ w₂) (fun _ _ _=>False))
   { tmps:=(ps.zip args).foldl (fun t (p,v)=>t.setIfInBounds p v) tmps,defers:=[] } W):YieldAt Fence.wide m P l args W R:=by
 have hy:=run_yield (P:=P) (args:=args) hl (by unfold YfG; exact hps);exact⟨fn,_,assign,body,hy,roundIn_of_wpIn (F:=Fence.wide) trivial h⟩
theorem YmH {P:Program}{g:Operand}{ps:Array Tmp}{assign body:Code}{Q:Exit->Act->World->Prop}{a:Act}{w:World}{n gf:Nat}{lb:Array Value}(hg:a.eval g= .func (.func gf) #[] lb)
 (eg:∀args w,(callFunc gf args).run P w= .ok (.enter gf args) w)
 (h:∀fn W1,W1=(w.alloc (.deferred (some []))).alloc (.loop (YfG fn a.tmps ps assign body w.heap.size .ready none))->
   Calls P gf (#[.func (.yield (w.heap.size+1)) #[] #[]]++lb) W1 (rangePost Fence.wide n P (w.heap.size+1) Q { a with defers:={ target:=.collected w.heap.size,args:=#[] }::a.defers })):
 (Code.rangeFunc g ps assign body).wpIn Fence.wide n P Q a w:=by
 refine wpIn_rangeFunc ?_;intro fn _;obtain⟨W1,hW1⟩:∃W1,(w.alloc (.deferred (some []))).alloc (.loop (YfG fn a.tmps ps assign body w.heap.size .ready none))=W1:=⟨_,rfl⟩;refine⟨w.heap.size+1,[{ target:=.collected w.heap.size,args:=#[] }],W1,{ target:=.fn (.func gf) lb,args:=#[.func (.yield (w.heap.size+1)) #[] #[]] },W1,gf,
  #[.func (.yield (w.heap.size+1)) #[] #[]]++lb,W1,?_,?_,fun _ _=>trivial,?_,?_,?_⟩
 ·rw[<-hW1]; exact run_enterLoop_outer _ _ _ _ _
 ·simp only[resolve,hg];simp[go_sem]
 ·simp[invoke,go_sem,eg]
 ·intro q; simp[Fence.wide] at q
 ·exact callsIn_wide.2 (h fn W1 hW1.symm)
def Ybm:Code->Option (Code×Code)
 |.rangeFunc _ _ a b=>some (a,b)
 |
  .seq a b=>match Ybm a with
  |some c=>some c
  |none=>Ybm b
 |.block _ c=>Ybm c
 |.scope c=>Ybm c
 |
  .cond _ a b=>match Ybm a with
  |some c=>some c
  |none=>Ybm b
 |_=>none
noncomputable def JO:Code×Code:=((Tryz.f77.body.bind Ybm).getD (.skip,.skip))
theorem Yiy {W:World}{l:Nat}{r:Loop}(h:W.heap[l]? =some (.loop r))(o:Obj):(W.putObj l o).heap[l]? =some o:=World.putObj_heap_same (Zg h).1
section
variable {w W:World}{b p i B:Nat}{s:ByteArray}{sp:List (Nat×Nat)}{v:Value}{r:Loop}{acc:List Tk}
theorem J4.putLoop (h:J4 w b p r acc W)(hb:w.heap.size+3<=b)(hp:b<p)(r':Loop):J4 w b p r' acc (W.putObj (p+4) (.loop r')):=
 h.keep (Keep.putObj W (p+4) _) (fun k q=>by omega) (fun k hk q=>by omega) (fun vo ho k e q=>by
  obtain⟨vo',ho',hrow,_⟩:=h.out;rw[ho] at ho'; cases ho';obtain⟨c,hc⟩:=Yr hrow e;subst q; rw[h.loop] at hc; cases hc) (Yiy h.loop _)
theorem Yk.putLoop (hA:Yk B b s i sp v W)(h:J4 w b p r acc W)(hp:b<p)(o:Obj):Yk B b s i sp v (W.putObj (p+4) o):=
 hA.keep (Keep.putObj W (p+4) _) Zo (fun k e q=>by
  obtain⟨c,hc⟩:=Yr hA.own e;subst q; rw[h.loop] at hc; cases hc)
end
theorem Ym8 {r:Loop}(hst:r.state= .ready)(hpe:r.pending=none):({ r with state:=.ready,pending:=none }:Loop)=r:=by
 cases r; simp only at hst hpe; subst hst hpe; rfl
theorem YoH {w W:World}{b p:Nat}{q r:Loop}{acc:List Tk}(e:q=r)(h:J4 w b p q acc W):J4 w b p r acc W:=e▸h
theorem YdC {W:World}{g:Nat}{old:Value}{t:TypeId}(h:W.heap[g]? =some (.cells #[old] t (0,0)))(new:Value):(W.setCell ⟨g,0,none⟩ new).heap[g]? =some (.cells #[new] t (0,0)):=by
 have:=heap_setCell_same W g 0 _ _ new h;simpa using this
structure Ypv (w:World)(b p:Nat)(code:Int)(x:Nat)(W:World):Prop where
 below:Below w.heap.size w W
 r2:W.heap[w.heap.size]? =some (.cells #[.slice none 0 0] 66 (0,0))
 r3:W.heap[w.heap.size+1]? =some (.cells #[.pointer (some ⟨b,0,none⟩)] 123 (0,0))
 r4:∃k,W.heap[w.heap.size+2]? =some (.cells #[.iface 190 (.pointer (some ⟨k,0,none⟩))] 125 (0,0))/\W.heap[k]? =some (.cells #[.int .i64 x,.int .i64 code] 192 (0,0))
 mark:W.heap[p+3]? =some (.deferred (some []))
 loop:∃r:Loop,W.heap[p+4]? =some (.loop r)/\r.state= .done/\r.pending=some .ret
theorem J4.stop {w W:World}{b p k x:Nat}{r:Loop}{acc:List Tk}{code:Int}(h:J4 w b p r acc W)(hb:w.heap.size+3<=b)(hp:b<p)(hk:W.heap[k]? =some (.cells #[.int .i64 x,.int .i64 code] 192 (0,0)))
 (r':Loop)(hst:r'.state= .done)(hpe:r'.pending=some .ret):
 (((((W.setCell ⟨w.heap.size,0,none⟩ (.slice none 0 0)).setCell ⟨w.heap.size+1,0,none⟩ (.pointer (some ⟨b,0,none⟩))).setCell ⟨w.heap.size+2,0,none⟩ (.iface 190 (.pointer (some ⟨k,0,none⟩))))).drew).heap[p+4]? =some (.loop r)/\
 Ypv w b p code x ((((((W.setCell ⟨w.heap.size,0,none⟩ (.slice none 0 0)).setCell ⟨w.heap.size+1,0,none⟩ (.pointer (some ⟨b,0,none⟩))).setCell ⟨w.heap.size+2,0,none⟩ (.iface 190 (.pointer (some ⟨k,0,none⟩))))).drew).putObj (p+4) (.loop r')):=by
 have hgt:=h.gt;have b2:=YdC h.r2 (.slice none 0 0);have K1:=Keep.of_setCell W ⟨w.heap.size,0,none⟩ (.slice none 0 0);have z1:(W.setCell ⟨w.heap.size,0,none⟩ (.slice none 0 0)).heap.size=W.heap.size:=Zs;generalize W.setCell ⟨w.heap.size,0,none⟩ (.slice none 0 0)=W1 at b2 K1 z1⊢;have b3:=YdC ((K1.block (w.heap.size+1) Zo (by show ¬w.heap.size+1=w.heap.size; omega)).trans h.r3) (.pointer (some ⟨b,0,none⟩));have K2:=Keep.of_setCell W1 ⟨w.heap.size+1,0,none⟩ (.pointer (some ⟨b,0,none⟩));have z2:(W1.setCell ⟨w.heap.size+1,0,none⟩ (.pointer (some ⟨b,0,none⟩))).heap.size=W.heap.size:=by simp[z1]
 generalize W1.setCell ⟨w.heap.size+1,0,none⟩ (.pointer (some ⟨b,0,none⟩))=W2 at b3 K2 z2⊢;have K12:Keep (fun k=>k=w.heap.size\/k=w.heap.size+1) W W2:=Keep.trans (K1.mono (fun _ _ q=>.inl q)) K2 (fun _ _ q=>.inr q);have b4:=YdC ((K12.block (w.heap.size+2) Zo Zo).trans h.r4) (.iface 190 (.pointer (some ⟨k,0,none⟩)));have K3:=Keep.of_setCell W2 ⟨w.heap.size+2,0,none⟩ (.iface 190 (.pointer (some ⟨k,0,none⟩)));have z3:(W2.setCell ⟨w.heap.size+2,0,none⟩ (.iface 190 (.pointer (some ⟨k,0,none⟩)))).heap.size=W.heap.size:=by simp[z2]
 generalize W2.setCell ⟨w.heap.size+2,0,none⟩ (.iface 190 (.pointer (some ⟨k,0,none⟩)))=W3 at b4 K3 z3⊢;have K123:Keep (fun k=>k=w.heap.size\/k=w.heap.size+1\/k=w.heap.size+2) W W3.drew:=
  Keep.trans (Keep.trans (K12.mono (fun _ _ q=>by omega)) K3 (fun _ _ q=>by have:_=w.heap.size+2:=q; omega)) (Keep.of_drewN (S:=fun _=>False) W3 1) (fun _ _ q=>q.elim)
 have hloop:W3.drew.heap[p+4]? =some (.loop r):=(K123.block _ hgt Zo).trans h.loop;have K4:=Keep.putObj W3.drew (p+4) (.loop r');have hne:k≠w.heap.size/\k≠w.heap.size+1/\k≠w.heap.size+2/\k≠p+4:=by
  refine⟨?_,?_,?_,?_⟩<;>(rintro rfl; first | (rw[h.r2] at hk; cases hk; done) | (rw[h.r3] at hk; cases hk; done) | (rw[h.r4] at hk; cases hk; done) | (rw[h.loop] at hk; cases hk; done))
 have hkl:=(Zg hk).1;have z4:W3.drew.heap.size=W.heap.size:=z3;have hlt:∀j,j<W.heap.size->j<W3.drew.heap.size:=fun j hj=>by rw[z4]; exact hj
 refine⟨hloop,⟨?_,?_,?_,⟨k,?_,?_⟩,?_,⟨r',Yiy hloop _,hst,hpe⟩⟩⟩
 ·have K:Keep (fun k=>k=w.heap.size\/k=w.heap.size+1\/k=w.heap.size+2\/k=p+4) W (W3.drew.putObj (p+4) (.loop r')):=Keep.trans (K123.mono (fun _ _ q=>by omega)) K4 (fun _ _ q=>by omega);exact h.below.trans (K.below h.below.size (fun i hi q=>by omega))
 ·refine(K4.block _ (hlt _ Zo) Zo).trans ((K3.block w.heap.size Zo (by show ¬w.heap.size=w.heap.size+2; omega)).trans ((K2.block w.heap.size Zo (by show ¬w.heap.size=w.heap.size+1; omega)).trans b2))
 ·refine(K4.block _ (hlt _ Zo) Zo).trans ((K3.block (w.heap.size+1) Zo (by show ¬w.heap.size+1=w.heap.size+2; omega)).trans b3)
 ·exact(K4.block _ (hlt _ Zo) Zo).trans b4
 ·exact(K4.block _ (hlt _ hkl) Zo).trans ((K123.block _ hkl Zo).trans hk)
 ·exact(K4.block _ (hlt _ Zo) Zo).trans ((K123.block _ Zo Zo).trans h.mark)
theorem Ylj (w:World)(b p:Nat)(fn:FuncId)(D i j:Nat)(s:ByteArray)(sp:List (Nat×Nat))(v:Value)(acc:List Tk)(W:World)(kind:Int)(text:ByteArray)(u0 u1 u7 u8 u9 u10 u11 u12 u13 u14 u15 u16 u17 u18 u19 u20 u21 u22 u23 u24 u25 u26 u27 u28 u29 u30 u31 u32 u33:Value)
 (hb:w.heap.size+3<=b)(hp:b<p)(h:J4 w b p (YfG fn #[u0,u1,.pointer (some ⟨w.heap.size,0,none⟩),.pointer (some ⟨w.heap.size+1,0,none⟩),.pointer (some ⟨w.heap.size+2,0,none⟩),.pointer (some ⟨p,0,none⟩),.pointer (some ⟨p+1,0,none⟩),u7,u8,u9,u10,u11,u12,u13,u14,u15,u16,u17,u18,u19,u20,u21,u22,u23,u24,u25,u26,u27,u28,u29,u30,u31,u32,u33] #[22,23] JO.1 JO.2 D .ready none) acc W)(hA:Yk w.heap.size b s i sp v W)(hacc:acc.length<40000):
 YieldAt Fence.wide 4 Tryz.prog (p+4) #[.agg #[.int .i64 kind,.string text,.int .i64 j],.nilIface] W fun e W'=>e= .returned (.bool true)/\
  J4 w b p (YfG fn #[u0,u1,.pointer (some ⟨w.heap.size,0,none⟩),.pointer (some ⟨w.heap.size+1,0,none⟩),.pointer (some ⟨w.heap.size+2,0,none⟩),.pointer (some ⟨p,0,none⟩),.pointer (some ⟨p+1,0,none⟩),u7,u8,u9,u10,u11,u12,u13,u14,u15,u16,u17,u18,u19,u20,u21,u22,u23,u24,u25,u26,u27,u28,u29,u30,u31,u32,u33] #[22,23] JO.1 JO.2 D .ready none) (acc++[⟨kind,text,j⟩]) W'/\Yk w.heap.size b s i sp v W':=by
 have hFn:∀f,(Fence.wide.inRound (p+4)).fn f:=fun _=>trivial;refine Yhu h.loop rfl ?_;conv=>arg 4; whnf
 generalize hbd:JO.2=body;have HBD:=Zh hbd;clear hbd;rw[HBD.out] at h;gi_wp2
 obtain⟨r,hr,hst,hpe⟩:∃r,YfG fn #[u0,u1,.pointer (some ⟨w.heap.size,0,none⟩),.pointer (some ⟨w.heap.size+1,0,none⟩),.pointer (some ⟨w.heap.size+2,0,none⟩),.pointer (some ⟨p,0,none⟩),.pointer (some ⟨p+1,0,none⟩),u7,u8,u9,u10,u11,u12,u13,u14,u15,u16,u17,u18,u19,u20,u21,u22,u23,u24,u25,u26,u27,u28,u29,u30,u31,u32,u33] #[22,23] JO.1 body D .ready none=r/\r.state= .ready/\r.pending=none:=⟨_,rfl,rfl,rfl⟩;rw[hr] at h⊢;clear hr;have hgt:=h.gt;obtain⟨i0,hi0,hz0,hz1,hz2⟩:=info_parts Yql;have hKa:Keep (fun _=>False) W (W.alloc (.cells #[.int .i64 kind,.string text,.int .i64 j] 136)):=Keep.of_alloc W _;have hTa:=heap_alloc_new W (.cells #[.int .i64 kind,.string text,.int .i64 j] 136);have ha:=h.keep hKa (fun _ q=>q.elim) (fun _ _ q=>q) (fun _ _ _ _ q=>q) ((hKa.block _ hgt (fun q=>q)).trans h.loop);have hAa:=hA.keep hKa (fun q=>q) (fun _ _ q=>q);have hsa:(W.alloc (.cells #[.int .i64 kind,.string text,.int .i64 j] 136)).heap.size=W.heap.size+1:=Zs;generalize W.alloc (.cells #[.int .i64 kind,.string text,.int .i64 j] 136)=Wa at hKa hTa ha hAa hsa⊢;refine⟨_,run_beginRound ha.loop hst,?_⟩;have hKb:=Keep.putObj Wa (p+4) (.loop { r with state:=.busy });have hb1:=ha.putLoop hb hp { r with state:=.busy };have hAb:=hAa.putLoop ha hp (.loop { r with state:=.busy });have hLb:=hb1.loop;have hTb:(Wa.putObj (p+4) (.loop { r with state:=.busy })).heap[W.heap.size]? =_:=(hKb.block _ Zo Zo).trans hTa;have hsb:(Wa.putObj (p+4) (.loop { r with state:=.busy })).heap.size=W.heap.size+1:=by simp[hsa]
 generalize Wa.putObj (p+4) (.loop { r with state:=.busy })=Wb at hb1 hAb hTb hsb hLb hKb⊢;have t0:Wb.cell? ⟨W.heap.size,0,none⟩=some (.int .i64 kind):=by simp[World.cell?,hTb]
 have t1:Wb.cell? ⟨W.heap.size,1,none⟩=some (.string text):=by simp[World.cell?,hTb]
 have t2:Wb.cell? ⟨W.heap.size,2,none⟩=some (.int .i64 j):=by simp[World.cell?,hTb]
 obtain⟨vo,hvo,hrow,hnil⟩:=hb1.out;have c0:Wb.cell? ⟨p+1,0,none⟩=some vo:=by simp[World.cell?,hvo]
 have hbel:=hb1.below.size;have hnews:=World.news_of_block (w:=Wb.alloc (.cells #[.int .i64 kind,.string text,.int .i64 j] 136)) (cs:=#[.int .i64 kind,.string text,.int .i64 j]) (t:=136) (fr:=(0,0)) (heap_alloc_new _ _);rw[hsb] at hnews;have hnews:=Zh hnews;clear hKa hTa ha hAa hsa hKb h hA;rw[<-HBD.out];conv=>arg 4; whnf
 gi_wp2_with (gi_at_builtin; go_loud (refine wpListIn_append_own _ rfl _ _ 66 rfl w.heap.size 136 i0 _ 3 32 Tryz.underlying66 hi0 hz0 hz1 hz2 rfl Zd _ _ _ rfl (hrow.alloc _) ⟨W.heap.size+1,0,none⟩ 1 1 [.int .i64 kind,.string text,.int .i64 j] rfl rfl hnews.out (by simp[Value.oneCell']) (by unfold maxLen; omega) Zo (by simp<;>omega) ?_); go_loud (intro v' w3 hown' hg3 hnil3); go_loud (obtain⟨g',cap',rfl⟩:=ownsRow_succ hown'); go_loud (have hP:=J4.push (x:=⟨kind,text,j⟩) hb1 hvo hb hp hAb hown' hg3); go_loud (have c3:w3.cell? ⟨p+1,0,none⟩=some vo:=by(simp[World.cell?,hP.1])); go_loud (have f3:w3.frozen? ⟨p+1,0,none⟩=false:=by(simp[World.frozen?,hP.1])))
 refine⟨_,_,run_endRound none hP.2.1.loop,rfl,?_,?_⟩
 ·exact YoH (Ym8 hst hpe) (hP.2.1.putLoop hb hp _)
 ·exact hP.2.2.putLoop hP.2.1 hp _
theorem Ymy (w:World)(b p:Nat)(fn:FuncId)(D:Nat)(acc:List Tk)(W:World)(code:Int)(x k:Nat)(u0 u1 u7 u8 u9 u10 u11 u12 u13 u14 u15 u16 u17 u18 u19 u20 u21 u22 u23 u24 u25 u26 u27 u28 u29 u30 u31 u32 u33:Value)
 (hb:w.heap.size+3<=b)(hp:b<p)(h:J4 w b p (YfG fn #[u0,u1,.pointer (some ⟨w.heap.size,0,none⟩),.pointer (some ⟨w.heap.size+1,0,none⟩),.pointer (some ⟨w.heap.size+2,0,none⟩),.pointer (some ⟨p,0,none⟩),.pointer (some ⟨p+1,0,none⟩),u7,u8,u9,u10,u11,u12,u13,u14,u15,u16,u17,u18,u19,u20,u21,u22,u23,u24,u25,u26,u27,u28,u29,u30,u31,u32,u33] #[22,23] JO.1 JO.2 D .ready none) acc W)(hk:W.heap[k]? =some (.cells #[.int .i64 x,.int .i64 code] 192 (0,0))):
 YieldAt Fence.wide 4 Tryz.prog (p+4) #[.agg #[.int .i64 0,.string ⟨#[]⟩,.int .i64 0],.iface 190 (.pointer (some ⟨k,0,none⟩))] W fun e W'=>e= .returned (.bool false)/\Ypv w b p code x W':=by
 have hFn:∀f,(Fence.wide.inRound (p+4)).fn f:=fun _=>trivial;refine Yhu h.loop rfl ?_;conv=>arg 4; whnf
 generalize hbd:JO.2=body;have HBD:=Zh hbd;clear hbd;rw[HBD.out] at h;gi_wp2
 obtain⟨r,hr,hst⟩:∃r,YfG fn #[u0,u1,.pointer (some ⟨w.heap.size,0,none⟩),.pointer (some ⟨w.heap.size+1,0,none⟩),.pointer (some ⟨w.heap.size+2,0,none⟩),.pointer (some ⟨p,0,none⟩),.pointer (some ⟨p+1,0,none⟩),u7,u8,u9,u10,u11,u12,u13,u14,u15,u16,u17,u18,u19,u20,u21,u22,u23,u24,u25,u26,u27,u28,u29,u30,u31,u32,u33] #[22,23] JO.1 body D .ready none=r/\r.state= .ready:=⟨_,rfl,rfl⟩;rw[hr] at h;clear hr;have hgt:=h.gt;have hKa:Keep (fun _=>False) W (W.alloc (.cells #[.int .i64 0,.string ⟨#[]⟩,.int .i64 0] 136)):=Keep.of_alloc W _;have hka:=(hKa.block k (Zg hk).1 (fun q=>q)).trans hk;have ha:=h.keep hKa (fun _ q=>q.elim) (fun _ _ q=>q) (fun _ _ _ _ q=>q) ((hKa.block _ hgt (fun q=>q)).trans h.loop);generalize W.alloc (.cells #[.int .i64 0,.string ⟨#[]⟩,.int .i64 0] 136)=Wa at hKa hka ha⊢;refine⟨_,run_beginRound ha.loop hst,?_⟩;have hb1:=ha.putLoop hb hp { r with state:=.busy };have hkb:=((Keep.putObj Wa (p+4) (.loop { r with state:=.busy })).block k (Zg hka).1 (fun q=>by subst q; rw[ha.loop] at hka; cases hka)).trans hka;generalize Wa.putObj (p+4) (.loop { r with state:=.busy })=Wb at hb1 hkb⊢;have c2:Wb.cell? ⟨w.heap.size,0,none⟩=some (.slice none 0 0):=by simp[World.cell?,hb1.r2]
 have c3:Wb.cell? ⟨w.heap.size+1,0,none⟩=some (.pointer none):=by simp[World.cell?,hb1.r3]
 have c4:Wb.cell? ⟨w.heap.size+2,0,none⟩=some .nilIface:=by simp[World.cell?,hb1.r4]
 have c5:Wb.cell? ⟨p,0,none⟩=some (.pointer (some ⟨b,0,none⟩)):=by simp[World.cell?,hb1.nm]
 have f2:Wb.frozen? ⟨w.heap.size,0,none⟩=false:=by simp[World.frozen?,hb1.r2]
 have f3:Wb.frozen? ⟨w.heap.size+1,0,none⟩=false:=by simp[World.frozen?,hb1.r3]
 have f4:Wb.frozen? ⟨w.heap.size+2,0,none⟩=false:=by simp[World.frozen?,hb1.r4]
 have hmix:Tryz.prog.follows .mixedOrders=true:=by kernel_rfl
 clear hKa hka ha h hk;rw[<-HBD.out];conv=>arg 4; whnf
 gi_wp2
 gi_region_with_o (fail)
 all_goals gi_wp2
 all_goals
  have hP:=fun r'=>hb1.stop hb hp hkb r';exact⟨_,_,run_endRound (some .ret) (hP { r with state:=.done,pending:=some .ret } rfl rfl).1,rfl,(hP { { r with state:=.busy } with state:=if (some Code.ret).isNone then .ready else .done,pending:=some .ret } rfl rfl).2⟩
end
theorem Yk2 (b:Nat)(w:World):
 Calls Tryz.prog 124 #[.pointer (some ⟨b,0,none⟩)] w fun e w'=>e= .returned (.func (.func 164) #[] #[.pointer (some ⟨w.heap.size,0,none⟩)])/\w'=w.alloc (.cells #[.pointer (some ⟨b,0,none⟩)] 123):=by
 go_enter Tryz.func124,Tryz.ntmps124;go_wp2;go_ret;exact⟨rfl,rfl⟩
theorem alloc_old {w:World}{k:Nat}{x:Obj}(o:Obj)(h:w.heap[k]? =some x):(w.alloc o).heap[k]? =some x:=(Below.heap_alloc w o k (Zg h).1).trans h
theorem alloc_at {w:World}{n:Nat}(o:Obj)(h:w.heap.size=n):(w.alloc o).heap[n]? =some o:=h▸heap_alloc_new w o
theorem Ylh {w w1:World}{s:ByteArray}{rec:Loop}{W:World}
 (hb1:Below (((w.alloc (.cells #[.slice none 0 0] 66)).alloc (.cells #[.pointer none] 123)).alloc (.cells #[.nilIface] 125)).heap.size
   (((w.alloc (.cells #[.slice none 0 0] 66)).alloc (.cells #[.pointer none] 123)).alloc (.cells #[.nilIface] 125)) w1)
 (hW:W=(((((w1.alloc (.cells (JQ s) 133)).alloc (.cells #[.pointer (some ⟨w1.heap.size,0,none⟩)] 123)).alloc (.cells #[.slice none 0 0] 66)).alloc
   (.cells #[.pointer (some ⟨w1.heap.size,0,none⟩)] 123)).alloc (.deferred (some []))).alloc (.loop rec)):
 w.heap.size+3<=w1.heap.size/\J4 w w1.heap.size (w1.heap.size+1) rec [] W/\Yk w.heap.size w1.heap.size s 0 [] (.slice none 0 0) W:=by
 have h2:=alloc_old (.cells #[.nilIface] 125) (alloc_old (.cells #[.pointer none] 123) (alloc_at (w:=w) (.cells #[.slice none 0 0] 66) rfl));have h3:=alloc_old (.cells #[.nilIface] 125) (alloc_at (w:=w.alloc (.cells #[.slice none 0 0] 66)) (n:=w.heap.size+1) (.cells #[.pointer none] 123) Zs);have h4:=alloc_at (w:=(w.alloc (.cells #[.slice none 0 0] 66)).alloc (.cells #[.pointer none] 123)) (n:=w.heap.size+2) (.cells #[.nilIface] 125) Zs;have hz:(((w.alloc (.cells #[.slice none 0 0] 66)).alloc (.cells #[.pointer none] 123)).alloc (.cells #[.nilIface] 125)).heap.size=w.heap.size+3:=Zs;have hB0:Below w.heap.size w (((w.alloc (.cells #[.slice none 0 0] 66)).alloc (.cells #[.pointer none] 123)).alloc (.cells #[.nilIface] 125)):=
  (((Below.refl _ w).alloc (Nat.le_refl _) _).alloc Zs _).alloc (by simp; omega) _
 generalize((w.alloc (.cells #[.slice none 0 0] 66)).alloc (.cells #[.pointer none] 123)).alloc (.cells #[.nilIface] 125)=W0 at hb1 h2 h3 h4 hz hB0;have g2:=(hb1.block w.heap.size Zo).trans h2;have g3:=(hb1.block (w.heap.size+1) Zo).trans h3;have g4:=(hb1.block (w.heap.size+2) Zo).trans h4;have hsz:w.heap.size+3<=w1.heap.size:=by have:=hb1.size; omega
 have hB1:Below w.heap.size w w1:=hB0.trans (hb1.mono Zo);have hn:=Yg0 w1 s;subst hW;refine⟨hsz,⟨?_,?_,?_,?_,?_,⟨.slice none 0 0,?_,⟨rfl,.inl ⟨rfl,rfl⟩⟩,by simp⟩,?_,?_,?_⟩,⟨?_,⟨rfl,.inl ⟨rfl,rfl⟩⟩,Nat.zero_le _,Nat.le_refl _⟩⟩
 ·exact(((((hB1.alloc Zo _).alloc (by simp; omega) _).alloc (by simp; omega) _).alloc (by simp; omega) _).alloc (by simp; omega) _).alloc (by simp; omega) _
 ·exact alloc_old _ (alloc_old _ (alloc_old _ (alloc_old _ (alloc_old _ (alloc_old _ g2)))))
 ·exact alloc_old _ (alloc_old _ (alloc_old _ (alloc_old _ (alloc_old _ (alloc_old _ g3)))))
 ·exact alloc_old _ (alloc_old _ (alloc_old _ (alloc_old _ (alloc_old _ (alloc_old _ g4)))))
 ·exact alloc_old _ (alloc_old _ (alloc_old _ (alloc_old _ (alloc_at _ Zs))))
 ·exact alloc_old _ (alloc_old _ (alloc_old _ (alloc_at _ Zs)))
 ·exact alloc_old _ (alloc_old _ (alloc_at _ Zs))
 ·exact alloc_old _ (alloc_at _ Zs)
 ·exact alloc_at _ Zs
 ·exact World.rowIs.alloc (World.rowIs.alloc (World.rowIs.alloc (World.rowIs.alloc (World.rowIs.alloc hn _) _) _) _) _
theorem Yf7 {R:Ending->World->Prop}{tmps:Array Value}{D g:Nat}{U:World}{x y z:Value}(hm:U.heap[D]? =some (.deferred (some [])))
 (t2:tmps[2]? =some (.pointer (some ⟨g,0,none⟩)))(t3:tmps[3]? =some (.pointer (some ⟨g+1,0,none⟩)))(t4:tmps[4]? =some (.pointer (some ⟨g+2,0,none⟩)))
 (b2:U.heap[g]? =some (.cells #[x] 66 (0,0)))(b3:U.heap[g+1]? =some (.cells #[y] 123 (0,0)))(b4:U.heap[g+2]? =some (.cells #[z] 125 (0,0)))
 (hR:R (.returned (.tuple #[x,y,z])) (U.putObj D (.deferred none))):
 LeavesInM Fence.wide 6 Tryz.prog Tryz.f77 tmps R [{ target:=.collected D,args:=#[] }] .returning U:=by
 refine⟨by simp,.inl ⟨D,_,rfl,run_takeDeferred hm,?_⟩⟩;have K:=Keep.putObj U D (.deferred none);have hne:∀{k:Nat} {c:Array Value} {t:TypeId},U.heap[k]? =some (.cells c t (0,0))->(U.putObj D (.deferred none)).heap[k]? =some (.cells c t (0,0)):=fun h=>
  (K.block _ (Zg h).1 (fun q=>by subst q; rw[hm] at h; cases h)).trans h
 have c2:(U.putObj D (.deferred none)).cell? ⟨g,0,none⟩=some x:=by simp[World.cell?,hne b2]
 have c3:(U.putObj D (.deferred none)).cell? ⟨g+1,0,none⟩=some y:=by simp[World.cell?,hne b3]
 have c4:(U.putObj D (.deferred none)).cell? ⟨g+2,0,none⟩=some z:=by simp[World.cell?,hne b4]
 refine⟨.tuple #[x,y,z],?_,hR⟩;generalize U.putObj D (.deferred none)=V at c2 c3 c4;simp[results,Tryz.f77,go_sem,t2,t3,t4,c2,c3,c4]
theorem J4.done {w W:World}{b p i:Nat}{s:ByteArray}{sp:List (Nat×Nat)}{v vo:Value}{r:Loop}{acc:List Tk}(h:J4 w b p r acc W)(hb:w.heap.size+3<=b)(hp:b<p)(hA:Yk w.heap.size b s i sp v W)
 (hrow:W.ownsRow w.heap.size 136 3 vo acc.length (Y4 acc)){U:World}
 (hU:U=(((W.setCell ⟨w.heap.size,0,none⟩ vo).setCell ⟨w.heap.size+1,0,none⟩ (.pointer (some ⟨b,0,none⟩))).setCell ⟨w.heap.size+2,0,none⟩ .nilIface).drew):
 U.heap[w.heap.size]? =some (.cells #[vo] 66 (0,0))/\U.heap[w.heap.size+1]? =some (.cells #[.pointer (some ⟨b,0,none⟩)] 123 (0,0))/\U.heap[w.heap.size+2]? =some (.cells #[.nilIface] 125 (0,0))/\
 U.heap[p+3]? =some (.deferred (some []))/\(U.putObj (p+3) (.deferred none)).ownsRow w.heap.size 136 3 vo acc.length (Y4 acc)/\Yk w.heap.size b s i sp v (U.putObj (p+3) (.deferred none))/\Below w.heap.size w (U.putObj (p+3) (.deferred none)):=by
 have hgt:=h.gt;have b2:=YdC h.r2 vo;have K1:=Keep.of_setCell W ⟨w.heap.size,0,none⟩ vo;have z1:(W.setCell ⟨w.heap.size,0,none⟩ vo).heap.size=W.heap.size:=Zs;generalize W.setCell ⟨w.heap.size,0,none⟩ vo=W1 at b2 K1 z1 hU;have b3:=YdC ((K1.block (w.heap.size+1) Zo (by show ¬w.heap.size+1=w.heap.size; omega)).trans h.r3) (.pointer (some ⟨b,0,none⟩));have K2:=Keep.of_setCell W1 ⟨w.heap.size+1,0,none⟩ (.pointer (some ⟨b,0,none⟩));have z2:(W1.setCell ⟨w.heap.size+1,0,none⟩ (.pointer (some ⟨b,0,none⟩))).heap.size=W.heap.size:=by simp[z1]
 generalize W1.setCell ⟨w.heap.size+1,0,none⟩ (.pointer (some ⟨b,0,none⟩))=W2 at b3 K2 z2 hU;have K12:Keep (fun k=>k=w.heap.size\/k=w.heap.size+1) W W2:=Keep.trans (K1.mono (fun _ _ q=>.inl q)) K2 (fun _ _ q=>.inr q);have b4:=YdC ((K12.block (w.heap.size+2) Zo Zo).trans h.r4) .nilIface;have K3:=Keep.of_setCell W2 ⟨w.heap.size+2,0,none⟩ .nilIface;have z3:(W2.setCell ⟨w.heap.size+2,0,none⟩ .nilIface).heap.size=W.heap.size:=by simp[z2]
 generalize W2.setCell ⟨w.heap.size+2,0,none⟩ .nilIface=W3 at b4 K3 z3 hU;subst hU;have K123:Keep (fun k=>k=w.heap.size\/k=w.heap.size+1\/k=w.heap.size+2) W W3.drew:=
  Keep.trans (Keep.trans (K12.mono (fun _ _ q=>by omega)) K3 (fun _ _ q=>by have:_=w.heap.size+2:=q; omega)) (Keep.of_drewN (S:=fun _=>False) W3 1) (fun _ _ q=>q.elim)
 have hmark:W3.drew.heap[p+3]? =some (.deferred (some [])):=(K123.block _ Zo Zo).trans h.mark;have K4:=Keep.putObj W3.drew (p+3) (.deferred none);have K:Keep (fun k=>k=w.heap.size\/k=w.heap.size+1\/k=w.heap.size+2\/k=p+3) W (W3.drew.putObj (p+3) (.deferred none)):=Keep.trans (K123.mono (fun _ _ q=>by omega)) K4 (fun _ _ q=>by omega);refine⟨?_,?_,b4,hmark,K.owns hrow (fun k e q=>?_),hA.keep K Zo (fun k e q=>?_),h.below.trans (K.below h.below.size (fun i hi q=>by omega))⟩
 ·exact(K3.block w.heap.size Zo (by show ¬w.heap.size=w.heap.size+2; omega)).trans ((K2.block w.heap.size Zo (by show ¬w.heap.size=w.heap.size+1; omega)).trans b2)
 ·exact(K3.block (w.heap.size+1) Zo (by show ¬w.heap.size+1=w.heap.size+2; omega)).trans b3
 ·obtain⟨c,hc⟩:=Yr hrow e;rcases q with rfl | rfl | rfl | rfl
  ·rw[h.r2] at hc; cases hc
  ·rw[h.r3] at hc; cases hc
  ·rw[h.r4] at hc; cases hc
  ·rw[h.mark] at hc; cases hc
 ·obtain⟨c,hc⟩:=Yr hA.own e;rcases q with rfl | rfl | rfl | rfl
  ·rw[h.r2] at hc; cases hc
  ·rw[h.r3] at hc; cases hc
  ·rw[h.r4] at hc; cases hc
  ·rw[h.mark] at hc; cases hc
def Ypw (s:ByteArray)(w:World)(R:Ydr)(e:Ending)(W':World):Prop:=
 match R with
 |.bad c x=>∃b k,e= .returned (.tuple #[.slice none 0 0,.pointer (some ⟨b,0,none⟩),.iface 190 (.pointer (some ⟨k,0,none⟩))])/\W'.heap[k]? =some (.cells #[.int .i64 x,.int .i64 c] 192 (0,0))/\Below w.heap.size w W'
 |.ok l sp=>∃b v vo,e= .returned (.tuple #[vo,.pointer (some ⟨b,0,none⟩),.nilIface])/\W'.ownsRow w.heap.size 136 3 vo l.length (Y4 l)/\(vo= .slice none 0 0↔l=[])/\Yk w.heap.size b s s.size sp v W'/\Below w.heap.size w W'
theorem Yj3 (s:ByteArray)(m:Int)(w:World)(hs:s.size<=40000)(hg:2<w.heap.size)(hm:w.cell? ⟨2,0,none⟩=some (.int .i64 m)):
 Calls Tryz.prog 77 #[.string s] w (Ypw s w (Jr s)):=by
 have HR:Hid (Jd s (s.size+1) 0 [] []=Jr s):=Zh (by unfold Jr; rw[if_neg Zo]);generalize Jr s=R at HR⊢;have d0:decide ((40000:Int)<(s.size:Int))=false:=Zf;have hFn:∀f,Fence.wide.fn f:=fun _=>trivial;refine callsIn_wide.1 (callsIn_of_wp_marks (n:=6) Tryz.func77 rfl trivial ?_);simp only[Tryz.ntmps77,List.size_toArray,List.length_cons,List.length_nil,Nat.reduceAdd,Nat.reduceSub,Array.replicate_succ,Array.replicate_zero,List.push_toArray,List.append_toArray,List.nil_append,List.cons_append];refine wpIn_wide.2 ?_;go_wp2_with fail;refine(YbC _).mono ?_;rintro e w1 ⟨rfl,hb1⟩;go_wp2_with (refine YbO rfl 133 #[(0,.tmp 9),(2,.tmp 10)] rfl [(0,.string s),(2,.agg JI)] (by simp[Act.eval]) (JQ s) (YdF s) ?_);refine(Yk2 _ _).mono ?_;rintro e w2 ⟨rfl,rfl⟩;go_wp2_with fail;refine(wpIn_wide (n:=6)).1 (YmH rfl (enters_of Tryz.func164 (by kernel_rfl) rfl) ?_);intro fn W5 hW5;obtain⟨hsz,hSM,hSA⟩:=Ylh hb1 hW5;have hbB:w.heap.size<=w1.heap.size:=Zo;clear hW5;generalize hl:(World.alloc _ _).heap.size=q5;have hq5:q5=w1.heap.size+4:=by rw[<-hl]; simp
 clear hl;subst hq5;refine(Yi1 w.heap.size w1.heap.size (w1.heap.size+3) s m (w1.heap.size+1+4) (J4 w w1.heap.size (w1.heap.size+1) _) (Ypv w w1.heap.size (w1.heap.size+1)) hs hg hbB
  (fun acc i sp v W W' h hA hk=>h.step hbB Zo hsz hA hk) (fun acc W h=>⟨by simp[World.cell?,h.cb],?_,h.below.size⟩)
  (fun acc i sp v W kind text j h hA hl=>Ylj w w1.heap.size (w1.heap.size+1) fn _ i j s sp v acc W kind text _ _ _ _ _ _ _ _ _ _ _ _ _ _ _ _ _ _ _ _ _ _ _ _ _ _ _ _ _ hsz Zo h hA hl)
  (fun acc W code x k h hk=>Ymy w w1.heap.size (w1.heap.size+1) fn _ acc W code x k _ _ _ _ _ _ _ _ _ _ _ _ _ _ _ _ _ _ _ _ _ _ _ _ _ _ _ _ _ hsz Zo h hk) W5 _ hSM hSA R HR).mono ?_
 ·exact(h.below.cell (p:=⟨2,0,none⟩) hg).trans hm
 intro e W6 hP;obtain⟨⟨v0,rfl⟩,hP⟩:=hP;cases R with
 |
  bad c x=>
  have hP:Ypv w w1.heap.size (w1.heap.size+1) c x W6:=hP;obtain⟨r,hr,hst,hpe⟩:=hP.loop;refine⟨some .ret,W6.putObj (w1.heap.size+1+4) (.loop { r with state:=.exhausted }),by rw[<-hpe]; exact run_endLoop hr (by rw[hst]; decide),?_⟩;have K:=Keep.putObj W6 (w1.heap.size+1+4) (.loop { r with state:=.exhausted });have hl6:=(Zg hr).1;have b2:=(K.block w.heap.size Zo Zo).trans hP.r2;have b3:=(K.block (w.heap.size+1) Zo Zo).trans hP.r3;obtain⟨k,h4,hk⟩:=hP.r4;have b4:=(K.block (w.heap.size+2) Zo Zo).trans h4;have bk:=(K.block k (Zg hk).1 (fun q=>by subst q; rw[hr] at hk; cases hk)).trans hk;have bm:=(K.block (w1.heap.size+1+3) Zo Zo).trans hP.mark;have hbel:Below w.heap.size w (W6.putObj (w1.heap.size+1+4) (.loop { r with state:=.exhausted })):=hP.below.trans (K.below hP.below.size (fun i hi q=>by omega));clear K hl6 h4 hk;generalize W6.putObj (w1.heap.size+1+4) (.loop { r with state:=.exhausted })=W7 at b2 b3 b4 bk bm hbel⊢;gi_wp2
  have K:=Keep.putObj W7 (w1.heap.size+1+3) (.deferred none);exact Yf7 bm rfl rfl rfl b2 b3 b4 ⟨_,k,rfl,(K.block k (Zg bk).1 (fun q=>by subst q; rw[bm] at bk; cases bk)).trans bk,hbel.trans (K.below hbel.size (fun i hi q=>by omega))⟩
 |
  ok l sp=>
  obtain⟨hM,v,hA⟩:J4 w w1.heap.size (w1.heap.size+1) _ l W6/\∃v,Yk w.heap.size w1.heap.size s s.size sp v W6:=hP;obtain⟨r,hrl,hrs,hrp⟩:∃r:Loop,W6.heap[w1.heap.size+1+4]? =some (.loop r)/\r.state≠.busy/\r.pending=none:=⟨_,hM.loop,by simp[YfG],rfl⟩;refine⟨none,W6.putObj (w1.heap.size+1+4) (.loop { r with state:=.exhausted }),by rw[<-hrp]; exact run_endLoop hrl hrs,?_⟩;have hA7:=hA.putLoop hM Zo (.loop { r with state:=.exhausted });have hM7:=hM.putLoop hsz Zo { r with state:=.exhausted };clear hM hA hrl;generalize W6.putObj (w1.heap.size+1+4) (.loop { r with state:=.exhausted })=W7 at hM7 hA7⊢;obtain⟨vo,hvo,hrow,hnil⟩:=hM7.out;obtain⟨A,cap,rfl⟩:∃A cap,vo= .slice A l.length cap:=by
   rcases hrow.2 with⟨e,h0⟩ | ⟨g,cap,cur,e,_⟩
   ·exact⟨none,0,by rw[e,h0]⟩
   ·exact⟨_,_,e⟩
  have c2:W7.cell? ⟨w.heap.size,0,none⟩=some (.slice none 0 0):=by simp[World.cell?,hM7.r2]
  have c3:W7.cell? ⟨w.heap.size+1,0,none⟩=some (.pointer none):=by simp[World.cell?,hM7.r3]
  have c4:W7.cell? ⟨w.heap.size+2,0,none⟩=some .nilIface:=by simp[World.cell?,hM7.r4]
  have c5:W7.cell? ⟨w1.heap.size+1,0,none⟩=some (.pointer (some ⟨w1.heap.size,0,none⟩)):=by simp[World.cell?,hM7.nm]
  have c6:W7.cell? ⟨w1.heap.size+1+1,0,none⟩=some (.slice A l.length cap):=by simp[World.cell?,hvo]
  have f2:W7.frozen? ⟨w.heap.size,0,none⟩=false:=by simp[World.frozen?,hM7.r2]
  have f3:W7.frozen? ⟨w.heap.size+1,0,none⟩=false:=by simp[World.frozen?,hM7.r3]
  have f4:W7.frozen? ⟨w.heap.size+2,0,none⟩=false:=by simp[World.frozen?,hM7.r4]
  dsimp only;go_wp2;go_region
  all_goals go_wp2
  all_goals
   obtain⟨x2,x3,x4,x5,x6,x7,x8⟩:=hM7.done hsz Zo hA7 hrow rfl;exact Yf7 x5 rfl rfl rfl x2 x3 x4 ⟨_,v,_,rfl,x6,hnil,x7,x8⟩
end Go.Proofs.YteamjdmhdfjopaaGreatDoor
