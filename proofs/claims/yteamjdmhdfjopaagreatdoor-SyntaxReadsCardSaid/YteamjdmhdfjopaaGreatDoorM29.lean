/- A part of the proof; it holds the texts Ro (names and blanks shortened). -/
import Derived.Test.YteamjdmhdfjopaaGreatDoorM11
import Derived.Test.YteamjdmhdfjopaaGreatDoorM9
namespace Go.Proofs.YteamjdmhdfjopaaGreatDoor
open Go.RowKit
set_option maxRecDepth 100000
set_option maxHeartbeats 8000000
set_option linter.unusedVariables false
set_option linter.unusedSimpArgs false
def Yi (k:Int)(t:ByteArray)(a:Int):Array Value:=#[.int .i64 k,.string t,.int .i64 a]
def rTok:Array Value:=Yi 0 ⟨#[]⟩ 0
theorem YN (k:Int)(t:ByteArray)(a:Int):(Yi k t a).all (·.oneCell')=true:=by simp[Yi,Value.oneCell']
theorem Yas (cs:Array Value)(h:cs.size=3):(Tryz.prog.info? 163).map (·.size)=some cs.size:=by rw[h]; kernel_rfl
def YgP (i:Nat):TokR->Array Value
 |.bad _ _=>rTok
 |.ok kind text _=>Yi kind text i
def YmU:TokR->Nat
 |.bad _ x=>x
 |.ok _ _ fin=>fin
def errOf:TokR->Array Value
 |.bad c x=>Yf x c
 |.ok _ _ _=>Yf 0 0
def oneV (i:Nat)(R:TokR):Value:=.tuple #[.agg (YgP i R),.int .i64 (YmU R),.agg (errOf R)]
theorem Yfr (i:Nat)(R:TokR):(YgP i R).size=3:=by cases R<;>rfl
theorem YhQ (i:Nat)(R:TokR):(YgP i R).all (·.oneCell')=true:=by cases R<;>exact YN _ _ _
theorem YfS (R:TokR):(errOf R).size=2:=by cases R<;>rfl
theorem Yif (R:TokR):(errOf R).all (·.oneCell')=true:=by cases R<;>exact YJ _ _
theorem Yek (w:World)(a b c:Obj):(((w.alloc a).alloc b).alloc c).heap[w.heap.size]? =some a/\(((w.alloc a).alloc b).alloc c).heap[w.heap.size+1]? =some b/\(((w.alloc a).alloc b).alloc c).heap[w.heap.size+1+1]? =some c/\
 Below w.heap.size w (((w.alloc a).alloc b).alloc c)/\(((w.alloc a).alloc b).alloc c).heap.size=w.heap.size+3:=by
 refine⟨?_,?_,?_,((below_alloc1 w a).alloc Zs b).alloc (by simp; omega) c,by simp⟩
 ·exact(Below.heap_alloc _ _ _ (by simp; omega)).trans ((Below.heap_alloc _ _ _ Zs).trans (heap_alloc_new w a))
 ·refine(Below.heap_alloc _ _ _ Zs).trans ?_;have:=heap_alloc_new (w.alloc a) b;simpa using this
 ·have:=heap_alloc_new ((w.alloc a).alloc b) c;simpa using this
theorem Yc3 {W:World}{p q:Nat}(hpq:p≠q){c1 o1 c2 o2:Array Value}{t1 t2:TypeId}(h1:W.heap[p]? =some (.cells o1 t1 (0,0)))(h2:W.heap[q]? =some (.cells o2 t2 (0,0))):
 ((W.setRow p c1).setRow q c2).heap[p]? =some (.cells c1 t1 (0,0))/\((W.setRow p c1).setRow q c2).heap[q]? =some (.cells c2 t2 (0,0)):=
 ⟨(setRow_other _ _ _ _ hpq).trans (setRow_heap _ _ _ _ _ _ h1),setRow_heap _ _ _ _ _ _ ((setRow_other _ _ _ _ (Ne.symm hpq)).trans h2)⟩
theorem Ybi {w W:World}{p q:Nat}(h:Below w.heap.size w W)(hp:w.heap.size<=p)(hq:w.heap.size<=q)(c1 c2:Array Value):Below w.heap.size w ((W.setRow p c1).setRow q c2):=
 ⟨h.os,h.tape,h.output,by have:=h.size; simpa using this,fun k hk=>(setRow_other _ _ _ _ Zo).trans ((setRow_other _ _ _ _ Zo).trans (h.block k hk))⟩
theorem YlG {w W1:World}{p q:Nat}(hpq:p≠q){o0 o1 o2 n0 n1 n2 c0 c1 d0 d1:Value}{t1 t2:TypeId}(h1:W1.heap[p]? =some (.cells #[o0,o1,o2] t1 (0,0)))(h2:W1.heap[q]? =some (.cells #[c0,c1] t2 (0,0)))
 (hb:Below w.heap.size w W1)(hp:w.heap.size<=p)(hq:w.heap.size<=q):
 (((((W1.setCell ⟨p,0,none⟩ n0).setCell ⟨p,1,none⟩ n1).setCell ⟨p,2,none⟩ n2).setCell ⟨q,0,none⟩ d0).setCell ⟨q,1,none⟩ d1).drew.heap[p]? =some (.cells #[n0,n1,n2] t1 (0,0))/\
 (((((W1.setCell ⟨p,0,none⟩ n0).setCell ⟨p,1,none⟩ n1).setCell ⟨p,2,none⟩ n2).setCell ⟨q,0,none⟩ d0).setCell ⟨q,1,none⟩ d1).drew.heap[q]? =some (.cells #[d0,d1] t2 (0,0))/\
 Below w.heap.size w (((((W1.setCell ⟨p,0,none⟩ n0).setCell ⟨p,1,none⟩ n1).setCell ⟨p,2,none⟩ n2).setCell ⟨q,0,none⟩ d0).setCell ⟨q,1,none⟩ d1).drew:=by
 have a1:=heap_setCell_same W1 p 0 _ _ n0 h1;have b1:=(Below.heap_setCell W1 ⟨p,0,none⟩ n0 q (Ne.symm hpq)).trans h2;have a2:=heap_setCell_same _ p 1 _ _ n1 a1;have b2:=(Below.heap_setCell _ ⟨p,1,none⟩ n1 q (Ne.symm hpq)).trans b1;have a3:=heap_setCell_same _ p 2 _ _ n2 a2;have b3:=(Below.heap_setCell _ ⟨p,2,none⟩ n2 q (Ne.symm hpq)).trans b2;have a4:=(Below.heap_setCell _ ⟨q,0,none⟩ d0 p hpq).trans a3;have b4:=heap_setCell_same _ q 0 _ _ d0 b3;have a5:=(Below.heap_setCell _ ⟨q,1,none⟩ d1 p hpq).trans a4;have b5:=heap_setCell_same _ q 1 _ _ d1 b4;have a6:(((((W1.setCell ⟨p,0,none⟩ n0).setCell ⟨p,1,none⟩ n1).setCell ⟨p,2,none⟩ n2).setCell ⟨q,0,none⟩ d0).setCell ⟨q,1,none⟩ d1).heap[p]? =some (.cells #[n0,n1,n2] t1 (0,0)):=by simpa using a5
 have b6:(((((W1.setCell ⟨p,0,none⟩ n0).setCell ⟨p,1,none⟩ n1).setCell ⟨p,2,none⟩ n2).setCell ⟨q,0,none⟩ d0).setCell ⟨q,1,none⟩ d1).heap[q]? =some (.cells #[d0,d1] t2 (0,0)):=by simpa using b5
 have hd:∀(U:World) (k:Nat),U.drew.heap[k]? =U.heap[k]?:=fun _ _=>rfl;refine⟨(hd _ _).trans a6,(hd _ _).trans b6,?_⟩;exact(((((hb.setCell (p:=⟨p,0,none⟩) hp _).setCell (p:=⟨p,1,none⟩) hp _).setCell (p:=⟨p,2,none⟩) hp _).setCell (p:=⟨q,0,none⟩) hq _).setCell (p:=⟨q,1,none⟩) hq _).drew
theorem Yjy:∀x:Fin 256,You (x.val:Int)=(inner Yj x.val||(x.val:Int)==46):=by decide+kernel
theorem Yh5 (s:ByteArray)(e:Nat):YeM s e=(decide (e<s.size)&&(inner Yj (bt s e)||bt s e==46)):=by
 rw[YmI];have h1:=YB s e;have h2:=Jk s e;have:=Yjy ⟨(bt s e).toNat,by omega⟩;dsimp only at this;rw[show(((bt s e).toNat:Nat):Int)=bt s e by omega] at this;rw[this]
theorem clear_any (s:ByteArray)(kind:Int)(i fin:Nat)(wrong:Int)(w:World)(hs:s.size<=1000000)(hf:fin<=s.size):
 Calls Tryz.prog 185 #[.string s,.agg (Yi kind (s.extract i fin) i),.int .i64 fin,.int .i64 wrong] w fun e w'=>e= .returned (oneV i (Yan s kind i fin wrong))/\Below w.heap.size w w':=by
 have hC:=fun w=>Yjq kind (s.extract i fin) i w (by rw[Ybn hf]; omega);rw[Yn3] at hC;have HCL:Hid (Yan s kind i fin wrong=if chkB kind (s.extract i fin)=0 then (if YeM s fin=true then .bad 44 fin else .ok kind (s.extract i fin) fin) else .bad wrong i):=rfl;rcases YlF kind (s.extract i fin) with hc | hc
 ·rw[hc] at hC;have HCL2:Hid (Yan s kind i fin wrong=if YeM s fin=true then .bad 44 fin else .ok kind (s.extract i fin) fin):=Zh (by rw[HCL.out,if_pos hc]);clear hc HCL;generalize s.extract i fin=T at hC HCL2⊢;unfold Yi;go_enter Tryz.func185,Tryz.ntmps185;go_wp2_with fail;refine(hC _).mono ?_;rintro e w1 ⟨rfl,hb⟩;obtain⟨u0,u1,u2,ub,uz⟩:=Yek w (.cells (Yi kind T i) 163) (.cells rTok 163) (.cells (Yf 0 0) 211);have hX:w1.heap[w.heap.size]? =some (.cells (Yi kind T i) 163 (0,0)):=(hb.block _ (by have:=uz; simp<;>omega)).trans u0;have hZ:w1.heap[w.heap.size+1]? =some (.cells rTok 163 (0,0)):=(hb.block _ (by have:=uz; simp<;>omega)).trans u1;have hE:w1.heap[w.heap.size+1+1]? =some (.cells (Yf 0 0) 211 (0,0)):=(hb.block _ (by have:=uz; simp<;>omega)).trans u2;have HB:Hid (Below w.heap.size w w1):=Zh (ub.trans (hb.mono (by simp; omega)));have c0:w1.cell? ⟨w.heap.size,0,none⟩=some (.int .i64 kind):=by simp[World.cell?,hX,Yi]
  have c1:w1.cell? ⟨w.heap.size,1,none⟩=some (.string T):=by simp[World.cell?,hX,Yi]
  have c2:w1.cell? ⟨w.heap.size,2,none⟩=some (.int .i64 i):=by simp[World.cell?,hX,Yi]
  clear u0 u1 u2 ub uz hb hX hC;have HN:=Zh (Yh5 s fin);by_cases hfl:fin<s.size
  ·have l1:decide ((fin:Int)<(s.size:Int))=true:=Zt;have l2:decide (fin<s.size)=true:=decide_eq_true hfl;have HX:Hid (((s[fin]'hfl).toNat:Int)=bt s fin):=Yq hfl;have hI:∀w,Calls Tryz.prog 118 #[.int .u8 ((s[fin]'hfl).toNat:Int)] w fun e w'=>e= .returned (.bool (inner Yj (bt s fin)))/\w'=w:=fun w=>by
    rw[HX.out]; exact YdF _ (YB s fin) (Jk s fin) w
   cases hin:inner Yj (bt s fin) with
   |
    true=>
    rw[hin] at hI;have HD:Hid (Yan s kind i fin wrong= .bad 44 fin):=Zh (by rw[HCL2.out,if_pos (by rw[HN.out,hin,decide_eq_true hfl]; rfl)]);clear hin;go_wp2_with (first | (go_at_call 118; refine(hI _).mono ?_; rintro e w9 ⟨rfl,rfl⟩) | (refine wpList_store_row rfl 163 (.tmp 8) (.tmp 37) rfl (w.heap.size+1) (rTok) rfl rfl 163 rTok hZ (Yas _ rfl) rfl (YN _ _ _) ?_) | (refine wpList_store_row rfl 211 (.tmp 10) (.tmp 40) rfl (w.heap.size+1+1) (Yf fin 44) rfl rfl 211 (Yf 0 0) (by exact(setRow_other _ _ _ _ Zo).trans hE) (Jt _ rfl) rfl (YJ _ _) ?_));obtain⟨f1,f2⟩:=Yc3 (W:=_) (p:=w.heap.size+1) (q:=w.heap.size+1+1) Zo (c1:=rTok) (c2:=Yf fin 44) hZ hE;refine bodyPost_ret (v:=.tuple #[.agg (rTok),.int .i64 fin,.agg (Yf fin 44)]) ?_ rfl ?_
    ·exact YX rfl _ _ (w.heap.size+1) (w.heap.size+1+1) 163 211 (rTok) (Yf fin 44) (0,0) (0,0) _ _ _ rfl rfl rfl f1 f2 Tryz.underlying163 rfl (Yas _ rfl) Tryz.underlying211 rfl (Jt _ rfl)
    exact⟨by rw[HD.out]; rfl,Ybi HB.out Zo Zo _ _⟩
   |
    false=>
    rw[hin] at hI;by_cases h46:((s[fin]'hfl).toNat:Int)=46
    ·have b46:(((s[fin]'hfl).toNat:Int)==46)=true:=beq_iff_eq.2 h46;have HD:Hid (Yan s kind i fin wrong= .bad 44 fin):=Zh (by rw[HCL2.out,if_pos (by rw[HN.out,hin,decide_eq_true hfl,<-HX.out,b46]; rfl)]);clear hin h46;go_wp2_with (first | (go_at_call 118; refine(hI _).mono ?_; rintro e w9 ⟨rfl,rfl⟩) | (refine wpList_store_row rfl 163 (.tmp 8) (.tmp 37) rfl (w.heap.size+1) (rTok) rfl rfl 163 rTok hZ (Yas _ rfl) rfl (YN _ _ _) ?_) | (refine wpList_store_row rfl 211 (.tmp 10) (.tmp 40) rfl (w.heap.size+1+1) (Yf fin 44) rfl rfl 211 (Yf 0 0) (by exact(setRow_other _ _ _ _ Zo).trans hE) (Jt _ rfl) rfl (YJ _ _) ?_));obtain⟨f1,f2⟩:=Yc3 (W:=_) (p:=w.heap.size+1) (q:=w.heap.size+1+1) Zo (c1:=rTok) (c2:=Yf fin 44) hZ hE;refine bodyPost_ret (v:=.tuple #[.agg (rTok),.int .i64 fin,.agg (Yf fin 44)]) ?_ rfl ?_
     ·exact YX rfl _ _ (w.heap.size+1) (w.heap.size+1+1) 163 211 (rTok) (Yf fin 44) (0,0) (0,0) _ _ _ rfl rfl rfl f1 f2 Tryz.underlying163 rfl (Yas _ rfl) Tryz.underlying211 rfl (Jt _ rfl)
     exact⟨by rw[HD.out]; rfl,Ybi HB.out Zo Zo _ _⟩
    ·have b46:(((s[fin]'hfl).toNat:Int)==46)=false:=beq_eq_false_iff_ne.2 h46;have HD:Hid (Yan s kind i fin wrong= .ok kind T fin):=Zh (by rw[HCL2.out,if_neg (by rw[HN.out,hin,decide_eq_true hfl,<-HX.out,b46]; decide)]);clear hin h46;go_wp2_with (first | (go_at_call 118; refine(hI _).mono ?_; rintro e w9 ⟨rfl,rfl⟩) | (refine wpList_store_row rfl 163 (.tmp 8) (.tmp 41) rfl (w.heap.size+1) (Yi kind T i) rfl rfl 163 rTok hZ (Yas _ rfl) rfl (YN _ _ _) ?_) | (refine wpList_store_row rfl 211 (.tmp 10) (.tmp 43) rfl (w.heap.size+1+1) (Yf 0 0) rfl rfl 211 (Yf 0 0) (by exact(setRow_other _ _ _ _ Zo).trans hE) (Jt _ rfl) rfl (YJ _ _) ?_));obtain⟨f1,f2⟩:=Yc3 (W:=_) (p:=w.heap.size+1) (q:=w.heap.size+1+1) Zo (c1:=Yi kind T i) (c2:=Yf 0 0) hZ hE;refine bodyPost_ret (v:=.tuple #[.agg (Yi kind T i),.int .i64 fin,.agg (Yf 0 0)]) ?_ rfl ?_
     ·exact YX rfl _ _ (w.heap.size+1) (w.heap.size+1+1) 163 211 (Yi kind T i) (Yf 0 0) (0,0) (0,0) _ _ _ rfl rfl rfl f1 f2 Tryz.underlying163 rfl (Yas _ rfl) Tryz.underlying211 rfl (Jt _ rfl)
     exact⟨by rw[HD.out]; rfl,Ybi HB.out Zo Zo _ _⟩
  ·have l1:decide ((fin:Int)<(s.size:Int))=false:=Zf;have HD:Hid (Yan s kind i fin wrong= .ok kind T fin):=Zh (by rw[HCL2.out,if_neg (by rw[HN.out,decide_eq_false hfl,Bool.false_and]; decide)]);go_wp2_with (first | (refine wpList_store_row rfl 163 (.tmp 8) (.tmp 41) rfl (w.heap.size+1) (Yi kind T i) rfl rfl 163 rTok hZ (Yas _ rfl) rfl (YN _ _ _) ?_) | (refine wpList_store_row rfl 211 (.tmp 10) (.tmp 43) rfl (w.heap.size+1+1) (Yf 0 0) rfl rfl 211 (Yf 0 0) (by exact(setRow_other _ _ _ _ Zo).trans hE) (Jt _ rfl) rfl (YJ _ _) ?_));obtain⟨f1,f2⟩:=Yc3 (W:=_) (p:=w.heap.size+1) (q:=w.heap.size+1+1) Zo (c1:=Yi kind T i) (c2:=Yf 0 0) hZ hE;refine bodyPost_ret (v:=.tuple #[.agg (Yi kind T i),.int .i64 fin,.agg (Yf 0 0)]) ?_ rfl ?_
   ·exact YX rfl _ _ (w.heap.size+1) (w.heap.size+1+1) 163 211 (Yi kind T i) (Yf 0 0) (0,0) (0,0) _ _ _ rfl rfl rfl f1 f2 Tryz.underlying163 rfl (Yas _ rfl) Tryz.underlying211 rfl (Jt _ rfl)
   exact⟨by rw[HD.out]; rfl,Ybi HB.out Zo Zo _ _⟩
 ·rw[hc] at hC;have HD:Hid (Yan s kind i fin wrong= .bad wrong i):=Zh (by rw[HCL.out,if_neg (by rw[hc]; decide)]);clear hc HCL;generalize s.extract i fin=T at hC⊢;unfold Yi;go_enter Tryz.func185,Tryz.ntmps185;go_wp2_with fail;refine(hC _).mono ?_;rintro e w1 ⟨rfl,hb⟩;obtain⟨u0,u1,u2,ub,uz⟩:=Yek w (.cells (Yi kind T i) 163) (.cells rTok 163) (.cells (Yf 0 0) 211);have hX:w1.heap[w.heap.size]? =some (.cells (Yi kind T i) 163 (0,0)):=(hb.block _ (by have:=uz; simp<;>omega)).trans u0;have hZ:w1.heap[w.heap.size+1]? =some (.cells rTok 163 (0,0)):=(hb.block _ (by have:=uz; simp<;>omega)).trans u1;have hE:w1.heap[w.heap.size+1+1]? =some (.cells (Yf 0 0) 211 (0,0)):=(hb.block _ (by have:=uz; simp<;>omega)).trans u2;have HB:Hid (Below w.heap.size w w1):=Zh (ub.trans (hb.mono (by simp; omega)));have c2:w1.cell? ⟨w.heap.size,2,none⟩=some (.int .i64 i):=by simp[World.cell?,hX,Yi]
  clear u0 u1 u2 ub uz hb hX hC;go_wp2_with fail;have z0:w1.cell? ⟨w.heap.size+1,0,none⟩=some (.int .i64 0):=by simp[World.cell?,hZ,rTok,Yi]
  have z1:w1.cell? ⟨w.heap.size+1,1,none⟩=some (.string ⟨#[]⟩):=by simp[World.cell?,hZ,rTok,Yi]
  have z2:w1.cell? ⟨w.heap.size+1,2,none⟩=some (.int .i64 0):=by simp[World.cell?,hZ,rTok,Yi]
  have e0:w1.cell? ⟨w.heap.size+1+1,0,none⟩=some (.int .i64 0):=by simp[World.cell?,hE,Yf]
  have e1:w1.cell? ⟨w.heap.size+1+1,1,none⟩=some (.int .i64 0):=by simp[World.cell?,hE,Yf]
  have fz0:w1.frozen? ⟨w.heap.size+1,0,none⟩=false:=by simp[World.frozen?,hZ]
  have fz1:w1.frozen? ⟨w.heap.size+1,1,none⟩=false:=by simp[World.frozen?,hZ]
  have fz2:w1.frozen? ⟨w.heap.size+1,2,none⟩=false:=by simp[World.frozen?,hZ]
  have fe0:w1.frozen? ⟨w.heap.size+1+1,0,none⟩=false:=by simp[World.frozen?,hE]
  have fe1:w1.frozen? ⟨w.heap.size+1+1,1,none⟩=false:=by simp[World.frozen?,hE]
  go_region
  all_goals go_wp2
  all_goals
   (
    obtain⟨f1,f2,f3⟩:=YlG (w:=w) (W1:=w1) (p:=w.heap.size+1) (q:=w.heap.size+1+1) Zo (n0:=.int .i64 0) (n1:=.string ⟨#[]⟩) (n2:=.int .i64 0) (d0:=.int .i64 i) (d1:=.int .i64 wrong) hZ hE HB.out Zo Zo;refine bodyPost_ret (v:=.tuple #[.agg rTok,.int .i64 i,.agg (Yf i wrong)]) ?_ rfl ?_
    ·exact YX rfl _ _ (w.heap.size+1) (w.heap.size+1+1) 163 211 rTok (Yf i wrong) (0,0) (0,0) _ _ _ rfl rfl rfl f1 f2 Tryz.underlying163 rfl (Yas _ rfl) Tryz.underlying211 rfl (Jt _ rfl)
    exact⟨by rw[HD.out]; rfl,f3⟩)
end Go.Proofs.YteamjdmhdfjopaaGreatDoor
