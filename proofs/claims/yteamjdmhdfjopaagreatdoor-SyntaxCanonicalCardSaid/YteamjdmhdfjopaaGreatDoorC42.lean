/- A part of the proof; it holds the texts Wru Wrx Wrv Rlm (names and blanks shortened). -/
import Derived.Test.YteamjdmhdfjopaaGreatDoorC40
import Derived.Test.YteamjdmhdfjopaaGreatDoorC41
import Derived.Test.YteamjdmhdfjopaaGreatDoorC33
import Derived.Deep.CutRange
import Derived.Test.YteamjdmhdfjopaaGreatDoorC25
namespace Go.Proofs.YteamjdmhdfjopaaGreatDoor
open Go.RowKit
set_option maxRecDepth 100000
set_option maxHeartbeats 8000000
set_option linter.unusedVariables false
set_option linter.unusedSimpArgs false
set_option linter.unnecessarySimpa false
section
open Go.RowKit Go.Shelf
def lnsB (lineF:Yu->ByteArray)(q:List Yu):List UInt8:=q.flatMap fun x=>(lineF x).data.toList++[10]
theorem Yer (lineF:Yu->ByteArray)(a b:List Yu):lnsB lineF (a++b)=lnsB lineF a++lnsB lineF b:=by simp[lnsB]
def YbJ (empty:Bool)(f:Fn):List UInt8:=(if empty then [] else [10])++((if f.entry then [36,69,78,84,82,89,32] else [])++(f.name.data.toList++[32,123,10]))
def YaT (lineF:Yu->ByteArray):List UInt8->List Fn->List UInt8
 |acc,[]=>acc
 |acc,f::l=>YaT lineF (acc++YbJ (acc.length==0) f++lnsB lineF (f.sents.linesB 2)++[125,10]) l
def Yau (l:List ByteArray):List UInt8:=if l.length=0 then [] else [36,69,88,84,69,82,78,32]++((YbN ⟨#[44,32]⟩ l).data.toList++[59,10])
def YfD (lineF:Yu->ByteArray)(m:Md):List UInt8:=YaT lineF (Yau m.externs) m.funcs
def YfC (lineF:Yu->ByteArray)(m:Md):ByteArray×Int:=if Yat m=0 then limB (bA (YfD lineF m)) else (⟨#[]⟩,Yat m)
theorem Yjs (lineF:Yu->ByteArray):∀(l:List Fn) (acc:List UInt8),acc.length<=(YaT lineF acc l).length
 |[],acc=>Nat.le_refl _
 |
  f::l,acc=>by
  have:=Yjs lineF l (acc++YbJ (acc.length==0) f++lnsB lineF (f.sents.linesB 2)++[125,10]);rw[YaT];simp only[List.length_append] at this;omega
theorem Yo9 (lineF:Yu->ByteArray)(acc:List UInt8)(l:List Fn)(k:Nat)(h:k<l.length):YaT lineF acc (l.drop k)=YaT lineF (acc++YbJ (acc.length==0) l[k]++lnsB lineF (l[k].sents.linesB 2)++[125,10]) (l.drop (k+1)):=by
 rw[List.drop_eq_getElem_cons h,YaT]
def mkD (Ds:List Nat):List Deferred:=Ds.map fun D=>{ target:=.collected D,args:=#[] }
theorem Ygh {R:Ending->World->Prop}{tmps:Array Value}{s:ByteArray}{n:Int}(t4:tmps[4]? =some (.string s))(t5:tmps[5]? =some (.int .i64 n)):∀(Ds:List Nat) (W:World),(∀D∈Ds,W.heap[D]? =some (.deferred (some [])))->Ds.Nodup->
 (∀W',Keep (fun k=>k∈Ds) W W'->R (.returned (.tuple #[.string s,.int .i64 n])) W')->LeavesInM Fence.wide 6 Tryz.prog Tryz.f65 tmps R (mkD Ds) .returning W:=by
 intro Ds;induction Ds with
 |
  nil=>
  intro W _ _ hR;have hr:(results Tryz.f65 tmps).run Tryz.prog W= .ok (.tuple #[.string s,.int .i64 n]) W:=by
   simp[results,Tryz.f65,go_sem,t4,t5]
  exact⟨_,hr,hR W (Keep.refl _ _)⟩
 |
  cons D Ds ih=>
  intro W hD hn hR;have hnd:=List.nodup_cons.1 hn;have hD0:=hD D Zs;have K:=Jk W D (.deferred none);refine⟨by simp,.inl ⟨D,_,rfl,run_takeDeferred hD0,ih _ (fun E hE=>?_) hnd.2 (fun W' hK=>hR W' ?_)⟩⟩
  ·have hE0:=hD E (by simp[hE]);exact(K.block _ (Zg hE0).1 (fun e=>hnd.1 (by have e:E=D:=e; rw[<-e]; exact hE))).trans hE0
  ·exact(K.mono (fun i _ e=>by have e:i=D:=e; simp[e])).trans hK (fun i _ e=>by simp[e])
theorem Ye7 (t:Array Value)(n:Nat)(h:t.size=n):t=((List.range n).map (fun i=>t.getD i undef)).toArray:=by
 subst h;apply Array.ext
 ·simp
 ·intro i h1 h2;simp[Array.getD,h1]
structure TxS (w:World)(bb:Nat)(c:Array Value)(fv:Value)(acc:List UInt8)(F:Nat->Prop)(Ds:List Nat)(W:World):Prop where
 bld:BldS bb bb (Lib.byteCells acc) F W
 below:Below w.heap.size w W
 mbox:W.heap[w.heap.size]? =some (.cells c 26 (0,0))
 fbox:W.cell? ⟨w.heap.size+1,0,none⟩=some fv
 high:w.heap.size+2<=bb
 bbl:bb<W.heap.size
 marks:∀D∈Ds,W.heap[D]? =some (.deferred (some []))
 nodup:Ds.Nodup
 nF:∀D∈Ds,w.heap.size<=D/\¬F D
section
variable {w W W':World}{bb:Nat}{c:Array Value}{fv:Value}{acc acc':List UInt8}{F F':Nat->Prop}{Ds:List Nat}
theorem TxS.step (h:TxS w bb c fv acc F Ds W)(hb:BldS bb bb (Lib.byteCells acc') F' W')(hG:Grow F F' W W'):TxS w bb c fv acc' F' Ds W':=by
 obtain⟨h1,h2,h3,h4,h5,h6,h7,h8,h9⟩:=h;have hl:=h1.low;have hz:=(Zg h3).1;have hf:=World.block_lt_of_cell? W _ h4;dsimp only at hf;exact⟨hb,h2.trans (hG.keep.below h2.size (fun i hi e=>by have:=hl i e; omega)),(hG.keep.block _ hz (fun e=>by have:=hl _ e; omega)).trans h3,(hG.keep.cell (p:=⟨w.heap.size+1,0,none⟩) hf (fun e=>by have:=hl _ e; dsimp only at this; omega)).trans h4,h5,Nat.lt_of_lt_of_le h6 hG.keep.size,
  fun D hD=>(hG.keep.block _ (Zg (h7 D hD)).1 (h9 D hD).2).trans (h7 D hD),h8,fun D hD=>⟨(h9 D hD).1,fun e=>(hG.sub D e).elim (h9 D hD).2 (fun e=>by have:=(Zg (h7 D hD)).1; omega)⟩⟩
theorem TxS.keep (h:TxS w bb c fv acc F Ds W)(hb:Below W.heap.size W W'):TxS w bb c fv acc F Ds W':=
 h.step (BldS.stab (B0:=0) _ _ h.bld (Keep.of_below hb)) ⟨Keep.of_below hb,fun _ e=>.inl e,fun k e=>Nat.lt_of_lt_of_le (h.bld.lt k e) hb.size⟩
theorem TxS.mark (h:TxS w bb c fv acc F Ds W){D:Nat}(hD:W.heap[D]? =some (.deferred (some [])))(hl:w.heap.size<=D)(hF:∀k,F k->k≠D)(hn:¬D∈Ds):TxS w bb c fv acc F (D::Ds) W:=by
 obtain⟨h1,h2,h3,h4,h5,h6,h7,h8,h9⟩:=h;refine⟨h1,h2,h3,h4,h5,h6,?_,List.nodup_cons.2 ⟨hn,h8⟩,?_⟩
 ·intro E hE;rcases List.mem_cons.1 hE with rfl | hE
  ·exact hD
  ·exact h7 E hE
 ·intro E hE;rcases List.mem_cons.1 hE with rfl | hE
  ·exact⟨hl,fun e=>hF _ e rfl⟩
  ·exact h9 E hE
end
theorem TxS.write {w W:World}{bb:Nat}{c:Array Value}{fv:Value}{acc:List UInt8}{F:Nat->Prop}{Ds:List Nat}(h:TxS w bb c fv acc F Ds W)(s:ByteArray)(hlen:acc.length+s.size<=140737488355328):
 Calls Tryz.prog 83 #[.pointer (some ⟨bb,0,none⟩),.string s] W fun e W'=>e= .returned (.tuple #[.int .i64 s.size,.nilIface])/\∃F',TxS w bb c fv (acc++s.data.toList) F' Ds W'/\Grow F F' W W':=by
 refine(Yho bb bb _ F s W h.bld (by rw[Lib.byteCells_length]; exact hlen) (Nat.le_of_lt h.bbl)).mono ?_;rintro e W' ⟨rfl,F',hb,hG⟩;refine⟨rfl,F',h.step ?_ hG,hG⟩;rw[Ybg];exact hb
structure YkT (lineF:Yu->ByteArray)(x:Yu):Prop where
 words:x.2.1≠[]
 few:x.2.1.length<=1000000000
 small:∀s∈x.2.1,s.size<=10000000
 ind:∃c:Nat,x.1=c/\c<=1000000
 joined:(YbN ⟨#[32]⟩ (YbL x.2.1 x.2.2)).size<=100000000000
end
section
open Go.RowKit Go.Shelf
theorem JG.unloop {X Y:World}{S:Nat->Prop}{v:Value}{l:List ByteArray}{L:Nat}{r:Loop}(h:JG X S v l)(hL:X.heap[L]? =some (.loop r))(k:Keep (fun k=>k=L) X Y):JG Y S v l:=by
 obtain⟨ao,cap,rfl,hn⟩:=h;refine⟨ao,cap,rfl,fun hne=>?_⟩;obtain⟨g,o,e,hS,hat,hc⟩:=hn hne;have hg:g≠L:=by
  rintro rfl;cases l with
  |nil=>exact hne rfl
  |
   cons s l=>
   have:=hat.1;simp[World.cell?,hL] at this
 have hk:JG Y (fun i=>i=g/\S g) (.slice ao l.length cap) l:=JG.keep (S:=fun i=>i=g/\S g) (w:=X) ⟨ao,cap,rfl,fun _=>⟨g,o,e,⟨rfl,hS⟩,hat,hc⟩⟩ (fun i q hi=>k.block i hi (by rw[q.1]; exact hg)) (fun i q _=>q);obtain⟨ao2,cap2,e2,hn2⟩:=hk;cases e2;obtain⟨g2,o2,e3,hS2,hat2,hc2⟩:=hn2 hne;exact⟨g2,o2,e3,by rw[hS2.1]; exact hS2.2,hat2,hc2⟩
def TyS (w:World)(bb:Nat)(c:Array Value)(fv:Value)(acc:List UInt8)(F:Nat->Prop)(Ds:List Nat)(p:Nat)(cf:Array Value)(W:World):Prop:=
 TxS w bb c fv acc F Ds W/\W.heap[p]? =some (.cells cf 63 (0,0))/\¬F p
section
variable {w W W':World}{bb:Nat}{c:Array Value}{fv:Value}{acc acc':List UInt8}{F F':Nat->Prop}{Ds:List Nat}{p:Nat}{cf:Array Value}
theorem TyS.grow (h:TyS w bb c fv acc F Ds p cf W)(ht:TxS w bb c fv acc' F' Ds W')(hG:Grow F F' W W'):TyS w bb c fv acc' F' Ds p cf W':=by
 have hp:=(Zg h.2.1).1;exact⟨ht,(hG.keep.block _ hp h.2.2).trans h.2.1,fun e=>(hG.sub p e).elim h.2.2 (fun e=>by omega)⟩
theorem TyS.keep (h:TyS w bb c fv acc F Ds p cf W)(hb:Below W.heap.size W W'):TyS w bb c fv acc F Ds p cf W':=
 h.grow (h.1.keep hb) ⟨Keep.of_below hb,fun _ e=>.inl e,fun k e=>Nat.lt_of_lt_of_le (h.1.bld.lt k e) hb.size⟩
theorem TyS.write (h:TyS w bb c fv acc F Ds p cf W)(s:ByteArray)(hlen:acc.length+s.size<=140737488355328):
 Calls Tryz.prog 83 #[.pointer (some ⟨bb,0,none⟩),.string s] W fun e W'=>e= .returned (.tuple #[.int .i64 s.size,.nilIface])/\∃F',TyS w bb c fv (acc++s.data.toList) F' Ds p cf W'/\Grow F F' W W':=
 (h.1.write s hlen).mono fun _ _ ⟨e,F',ht,hG⟩=>⟨e,F',h.grow ht hG,hG⟩
theorem TyS.stab {B0:Nat}(hB:bb<B0)(hp:p<B0)(hD:∀D∈Ds,D<B0):Stab B0 F (TyS w bb c fv acc F Ds p cf):=by
 rintro X Y ⟨⟨h1,h2,h3,h4,h5,h6,h7,h8,h9⟩,h10,h11⟩ hK;have hf:=World.block_lt_of_cell? X _ h4;dsimp only at hf;exact⟨⟨BldS.stab _ _ h1 hK,h2.trans (hK.below h2.size (fun i hi e=>by omega)),(hK.block _ (Zg h3).1 (fun e=>by omega)).trans h3,(hK.cell (p:=⟨w.heap.size+1,0,none⟩) hf (fun e=>by dsimp only at e; omega)).trans h4,h5,Nat.lt_of_lt_of_le h6 hK.size,
  fun D hm=>(hK.block _ (Zg (h7 D hm)).1 (fun e=>by have:=hD D hm; omega)).trans (h7 D hm),h8,h9⟩,(hK.block _ (Zg h10).1 (fun e=>by omega)).trans h10,h11⟩
theorem TyS.mark (h:TyS w bb c fv acc F Ds p cf W){D:Nat}(hD:W.heap[D]? =some (.deferred (some [])))(hl:w.heap.size<=D)(hF:∀k,F k->k≠D)(hn:¬D∈Ds):TyS w bb c fv acc F (D::Ds) p cf W:=⟨h.1.mark hD hl hF hn,h.2⟩
end
theorem Yqg (lineF:Yu->ByteArray)(q r:List Yu)(x:Yu):(lnsB lineF q).length+(lineF x).size+1<=(lnsB lineF (q++x::r)).length:=by
 rw[Yer];have:(lineF x).data.toList.length=(lineF x).size:=Array.length_toList;simp only[lnsB,List.flatMap_cons,List.length_append,List.length_cons,List.length_nil];omega
theorem Ym9 (lineF:Yu->ByteArray)(q:List Yu)(x:Yu):lnsB lineF (q++[x])=lnsB lineF q++(lineF x++⟨#[10]⟩).data.toList:=by
 rw[Yer]; simp[lnsB,ByteArray.data_append]
def AxT (t0:Array Value)(x:Yu)(_F:Nat->Prop)(a':Act)(X:World):Prop:=
 ∃z v,a'={ tmps:=(t0.setIfInBounds 54 (.agg #[.int .i64 x.1,v,.bool x.2.2])).setIfInBounds 12 (.pointer (some ⟨z,0,none⟩)),defers:=[] }/\X.heap[z]? =some (.cells #[.int .i64 x.1,v,.bool x.2.2] 112 (0,0))/\JG X (fun _=>True) v x.2.1
theorem AxT.keep {t0:Array Value}(x:Yu)(F:Nat->Prop)(a':Act)(X Y:World)(L:Nat)(r:Loop)(h:AxT t0 x F a' X)(hL:X.heap[L]? =some (.loop r))(k:Keep (fun k=>k=L) X Y):AxT t0 x F a' Y:=by
 obtain⟨z,v,h1,h2,h3⟩:=h;exact⟨z,v,h1,(k.block _ (Zg h2).1 (fun e=>by have e:z=L:=e; rw[e,hL] at h2; cases h2)).trans h2,h3.unloop hL k⟩
theorem YlO {P:Program}{g:Operand}{ps:Array Tmp}{assign body:Code}{Q:Exit->Act->World->Prop}{a:Act}{w:World}
 {gf:Nat}{lb:Array Value}(hg:a.eval g= .func (.func gf) #[] lb)(eg:∀args w,(callFunc gf args).run P w= .ok (.enter gf args) w)
 {xs:List Yu}{F0:Nat->Prop}(hseq:SeqR P gf lb Ykl xs F0 w)(hps:ps.size=1)
 (I:List Yu->(Nat->Prop)->World->Prop)(hF0:∀k,F0 k->k<w.heap.size)(hI:∀s F,Stab w.heap.size F (I s F))(h0:I [] F0 w)
 (hassign:∀(l:Nat) (x:Yu) (v:Value) (W:World) (K:Act->World->Prop),JG W (fun _=>True) v x.2.1->
   (∀a' W',Below W.heap.size W W'->AxT a.tmps x F0 a' W'->K a' W')->
   assign.wpIn (Fence.wide.inRound l) 4 P (Exit.then K (fun _ _ _=>False)) { tmps:=(ps.zip #[.agg #[.int .i64 x.1,v,.bool x.2.2]]).foldl (fun t (p,v)=>t.setIfInBounds p v) a.tmps,defers:=[] } W)
 (hbody:∀(l:Nat) (pre:List Yu) (x:Yu) (r:List Yu) (F:Nat->Prop) (W:World) (a':Act),xs=pre++x::r->w.heap.size+2<=W.heap.size->(∀k,F k->k<W.heap.size)->I pre F W->AxT a.tmps x F a' W->
   body.wpIn (Fence.wide.inRound l) 4 P (YmF I F (pre++[x]) W) a' W)
 (hdone:∀(F:Nat->Prop) (W:World),I xs F W->Grow F0 F w W->W.heap[w.heap.size]? =some (.deferred (some []))->w.heap.size+2<=W.heap.size->
   (∀k,F k->k≠w.heap.size)->Q .normal { a with defers:={ target:=.collected w.heap.size,args:=#[] }::a.defers } W):
 (Code.rangeFunc g ps assign body).wp P Q a w:=by
 refine YlN hg eg hseq (fun x args F W h=>?_) I hF0 hI h0 (AxT a.tmps) (fun x F a' X Y L r h hL k=>AxT.keep x F a' X Y L r h hL k) (fun l pre x r F W args K hxs hz hF hi hRd hK=>?_) hbody hdone
 ·obtain⟨v,rfl,_⟩:=h;exact hps.symm
 ·obtain⟨v,rfl,hst⟩:=hRd;exact hassign l x v W K (JG.keep hst (fun _ _ _=>rfl) (fun _ _ _=>trivial)) (fun a' W' hb h=>hK a' W' hb h)
end
section
open Go.RowKit Go.Shelf
attribute [local go_sem] Oper.semAt_some
def Y1 (x:Yu):ByteArray:=Yjj x.1.toNat x.2.1 x.2.2
def YpB (m:Md):Prop:=∀f∈m.funcs,f.sents.okS/\f.sents.len<=1000000/\f.sents.sz<=1000000/\f.name.size<=1000/\∀x∈f.sents.linesB 2,YkT Y1 x
def fvW:Value:=.func (.func 66) #[] #[]
def Yrf (w:World)(r:ByteArray×Int)(e:Ending)(w':World):Prop:=e= .returned (.tuple #[.string r.1,.int .i64 r.2])/\Below w.heap.size w w'
def TxI (m:Md)(w:World)(bb:Nat)(c:Array Value)(af:Option Addr)(cf:Nat)(a:Act)(W:World):Prop:=
 a.tmps.size=67/\a.tmps.getD 3 undef= .pointer (some ⟨w.heap.size+1,0,none⟩)/\a.tmps.getD 7 undef= .pointer (some ⟨bb,0,none⟩)/\a.tmps.getD 29 undef= .slice af m.funcs.length cf/\a.tmps.getD 30 undef= .int .i64 m.funcs.length/\
  ∃(k:Nat) (acc:List UInt8) (F:Nat->Prop) (Ds:List Nat),a.tmps.getD 31 undef= .int .i64 k/\k<=m.funcs.length/\a.defers=mkD Ds/\TxS w bb c fvW acc F Ds W/\YaT Y1 acc (m.funcs.drop k)=YfD Y1 m
def TzI (w:World)(bb:Nat)(c:Array Value)(af:Option Addr)(nf cf k p:Nat)(cl:Array Value)(asl:Option Addr)(cs:Nat)(S:Ss)(B:List UInt8)(a:Act)(W:World):Prop:=
 a.tmps.size=67/\a.tmps.getD 3 undef= .pointer (some ⟨w.heap.size+1,0,none⟩)/\a.tmps.getD 7 undef= .pointer (some ⟨bb,0,none⟩)/\a.tmps.getD 9 undef= .pointer (some ⟨p,0,none⟩)/\a.tmps.getD 29 undef= .slice af nf cf/\a.tmps.getD 30 undef= .int .i64 nf/\a.tmps.getD 31 undef= .int .i64 k/\
  a.tmps.getD 46 undef= .slice asl S.len cs/\a.tmps.getD 47 undef= .int .i64 S.len/\
  ∃(j:Nat) (rest:Ss) (acc:List UInt8) (F:Nat->Prop) (Ds:List Nat),a.tmps.getD 48 undef= .int .i64 j/\a.defers=mkD Ds/\j+rest.len=S.len/\(rest≠.nil->∃g o,asl=some ⟨g,o,none⟩/\rest.at w (fun _=>True) g (o+j*5))/\rest.okS/\rest.sz<=1000000/\(∀x∈rest.linesB 2,YkT Y1 x)/\
   TyS w bb c fvW acc F Ds p cl W/\acc++lnsB Y1 (rest.linesB 2)=B
theorem Yov (m:Md)(ve vf:Value)(w:World)(hm:MdV w (fun _=>True) ve vf m)(hfine:m.fine)(hok:Yat m=0->YpB m)(hsize:(YfD Y1 m).length<=100000000000):
 Calls Tryz.prog 65 #[.agg #[ve,vf],fvW] w (Yrf w (YfC Y1 m)):=by
 obtain⟨ae,ce,rfl,he⟩:=id hm.1;obtain⟨af,cf,rfl,hf⟩:=id hm.2;obtain⟨W0,hW0⟩:∃W0,W0=(w.alloc (.cells #[.slice ae m.externs.length ce,.slice af m.funcs.length cf] 26)).alloc (.cells #[.func (.func 66) #[] #[]] 115):=⟨_,rfl⟩;obtain⟨x0,x1,hb0,hz0⟩:=alloc2 w _ _ _ _ W0 hW0;have hm0:MdV W0 (fun _=>True) (.slice ae m.externs.length ce) (.slice af m.funcs.length cf) m:=hm.keep (fun k _ hk=>hb0.block k hk) (fun _ _ _=>trivial);have HFm:=Zh (YpA m _ _ W0 hm0 hfine);have HW0:=Zh hW0;have HX0:=Zh x0;have HX1:=Zh x1;have HB0:=Zh hb0;have HM:=Zh hm;have HE:=Zh he;have HFN:=Zh hf;have HOK:=Zh hok;have HSZ:=Zh hsize;have hle:=hfine.1;have hlf:=hfine.2.1;have y0:W0.cell? ⟨w.heap.size,0,none⟩=some (.slice ae m.externs.length ce):=by simp[World.cell?,x0]
 have y1:W0.cell? ⟨w.heap.size,1,none⟩=some (.slice af m.funcs.length cf):=by simp[World.cell?,x0]
 have hFn:∀f,Fence.wide.fn f:=fun _=>trivial;clear hm he hf hm0 hW0 x0 x1 hb0 hok hsize hfine;unfold fvW;refine callsIn_wide.1 (callsIn_of_wp_marks (n:=6) Tryz.func65 rfl trivial ?_);simp only[Tryz.ntmps65,List.size_toArray,List.length_cons,List.length_nil,Nat.reduceAdd,Nat.reduceSub,Array.replicate_succ,Array.replicate_zero,List.push_toArray,List.append_toArray,List.nil_append,List.cons_append];refine wpIn_wide.2 ?_;go_upto_region 1 with(fail)
 rw[<-HW0.out];go_wp2_with fail;refine HFm.out.mono ?_;rintro e w1 ⟨rfl,hb1⟩;have hz1:=hb1.size;have n0:=(hb1.block _ Zo).trans HX0.out;have n1:=(hb1.block _ Zo).trans HX1.out;have HB1:=Zh (HB0.out.trans (hb1.mono Zo));have y0:w1.cell? ⟨w.heap.size,0,none⟩=some (.slice ae m.externs.length ce):=by simp[World.cell?,n0]
 have y1:w1.cell? ⟨w.heap.size,1,none⟩=some (.slice af m.funcs.length cf):=by simp[World.cell?,n0]
 by_cases hfo:Yat m=0
 ·have HR:Hid (YfC Y1 m=limB (bA (YfD Y1 m))):=Zh (by unfold YfC; rw[if_pos hfo]);have HFO:=Zh (HOK.out hfo);obtain⟨V,hV⟩:∃V,V=w1.alloc (.cells #[.pointer none,.slice none 0 0] 142):=⟨_,rfl⟩;have hVn:V.heap[w1.heap.size]? =some (.cells #[.pointer none,.slice none 0 0] 142 (0,0)):=by rw[hV]; exact heap_alloc_new _ _
  have hVb:Below w1.heap.size w1 V:=by rw[hV]; exact below_alloc1 _ _
  have hT0:TxS w w1.heap.size #[.slice ae m.externs.length ce,.slice af m.funcs.length cf] (.func (.func 66) #[] #[]) [] (fun k=>k=w1.heap.size) [] V:=
   ⟨⟨⟨.pointer none,.slice none 0 0,hVn,.inl rfl,World.ownsRow_nil _ _ _ _,by simp[Value.ownBlock],fun k=>by simp[Value.ownBlock]⟩,Nat.le_refl _⟩,HB1.out.trans (hVb.mono HB1.out.size),(hVb.block _ Zo).trans n0,by
    have:=(hVb.block _ Zo).trans n1;simp[World.cell?,this],by omega,(Zg hVn).1,by simp,by simp,by simp⟩
  have HT0:=Zh hT0;have HV:=Zh hV;rw[hfo];clear hfo hV hVn hVb hT0 n0 n1 hb1;go_upto_region 5 with(fail)
  rw[<-HV.out];have y0:V.cell? ⟨w.heap.size,0,none⟩=some (.slice ae m.externs.length ce):=by have:=HT0.out.mbox; simp[World.cell?,this]
  go_upto_if 21 with(fail)
  go_cut [] from 21 to 27 (fun wx=>Hid (∃F,TxS w w1.heap.size #[.slice ae m.externs.length ce,.slice af m.funcs.length cf] (.func (.func 66) #[] #[]) (Yau m.externs) F [] wx))
  case first=>
   by_cases hn:m.externs.length=0
   ·have q0:¬0<m.externs.length:=by omega
    have HQ:Hid (∃F,TxS w w1.heap.size #[.slice ae m.externs.length ce,.slice af m.funcs.length cf] (.func (.func 66) #[] #[]) (Yau m.externs) F [] V):=Zh ⟨_,by rw[show Yau m.externs=[] by unfold Yau; rw[if_pos hn]]; exact HT0.out⟩;clear hn;go_wp2;go_meet
    exact HQ
   ·have q0:0<m.externs.length:=by omega
    have hxl:(Yau m.externs).length<=100000000000:=Nat.le_trans (Yjs Y1 m.funcs (Yau m.externs)) HSZ.out;have hxt:Yau m.externs=[36,69,88,84,69,82,78,32]++((YbN ⟨#[44,32]⟩ m.externs).data.toList++[59,10]):=by unfold Yau; rw[if_neg hn]
    have hjl:(YbN ⟨#[44,32]⟩ m.externs).data.toList.length=(YbN ⟨#[44,32]⟩ m.externs).size:=Array.length_toList;have hjs:(YbN ⟨#[44,32]⟩ m.externs).size<=100000000000:=by rw[hxt] at hxl; simp only[List.length_append,List.length_cons] at hxl; omega
    have hbV:Below w.heap.size w V:=HT0.out.below;have HJ:=Zh (Yod m.externs ⟨#[44,32]⟩ (.slice ae m.externs.length ce) V (HM.out.1.keep (fun k _ hk=>hbV.block k hk) (fun _ _ _=>trivial)) Zo Zo);have HXT:=Zh hxt;clear hn hxl hxt hjl hbV;generalize YbN ⟨#[44,32]⟩ m.externs=JJ at hjs HJ HXT;go_wp2_with fail;refine HJ.out.mono ?_;rintro e w2 ⟨rfl,hb2⟩;have HT2:=Zh (HT0.out.keep hb2);have hsj:((⟨#[36,69,88,84,69,82,78,32]⟩:ByteArray)++JJ).size<=1000000000000:=by rw[ByteArray.size_append]; show 8+_<=_; omega
    have hsk:(((⟨#[36,69,88,84,69,82,78,32]⟩:ByteArray)++JJ)++⟨#[59,10]⟩).size<=1000000000000:=by rw[ByteArray.size_append,ByteArray.size_append]; show 8+_+2<=_; omega
    have HSK:=Zh hsk;clear hb2;go_wp2_with fail;refine(HT2.out.write _ (by have:=HSK.out; simp only[List.length_nil]; omega)).mono ?_;rintro e w3 ⟨rfl,F3,hT3,_⟩;have HQ:Hid (∃F,TxS w w1.heap.size #[.slice ae m.externs.length ce,.slice af m.funcs.length cf] (.func (.func 66) #[] #[]) (Yau m.externs) F [] w3):=Zh ⟨F3,by
     rw[HXT.out];have e:([]:List UInt8)++(((⟨#[36,69,88,84,69,82,78,32]⟩:ByteArray)++JJ)++⟨#[59,10]⟩).data.toList=[36,69,88,84,69,82,78,32]++(JJ.data.toList++[59,10]):=by simp[ByteArray.data_append]
     rw[e] at hT3;exact hT3⟩
    clear hT3 hsk hsj;go_wp2_with fail;go_meet
    exact HQ
  case rest=>
   obtain⟨F1,hT1⟩:=Hid.out hcut;have HT1:=Zh hT1;have y1:wc.cell? ⟨w.heap.size,1,none⟩=some (.slice af m.funcs.length cf):=by have:=hT1.mbox; simp[World.cell?,this]
   clear hcut hT1;go_wp2_with fail;refine wp_loop (TxI m w w1.heap.size #[.slice ae m.externs.length ce,.slice af m.funcs.length cf] af cf) (fun a _=>m.funcs.length - (intOf (a.tmps.getD 31 undef)).toNat) ?start ?round
   case start=>exact⟨rfl,rfl,rfl,rfl,rfl,0,_,F1,[],rfl,Nat.zero_le _,rfl,HT1.out,rfl⟩
   case round=>
    rintro⟨tm,df⟩ wr ⟨hsz,h3,h7,h29,h30,k,acc,F,Ds,h31,hk,hdf,hT,hacc⟩;dsimp only at hsz h3 h7 h29 h30 h31 hdf;subst hdf;obtain⟨u,he,hu⟩:∃u:Nat->Value,tm=#[u 0,u 1,u 2,u 3,u 4,u 5,u 6,u 7,u 8,u 9,u 10,u 11,u 12,u 13,u 14,u 15,u 16,u 17,u 18,u 19,u 20,u 21,u 22,u 23,u 24,u 25,u 26,u 27,u 28,u 29,u 30,u 31,u 32,u 33,u 34,u 35,u 36,u 37,u 38,u 39,u 40,u 41,u 42,u 43,u 44,u 45,u 46,u 47,u 48,u 49,u 50,u 51,u 52,u 53,u 54,u 55,u 56,u 57,u 58,u 59,u 60,u 61,u 62,u 63,u 64,u 65,u 66]/\∀k,tm.getD k undef=u k:=⟨fun k=>tm.getD k undef,(Ye7 tm 67 hsz).trans rfl,fun _=>rfl⟩;rw[hu] at h3 h7 h29 h30 h31;rw[h3,h7,h29,h30,h31] at he;clear hsz hu h3 h7 h29 h30 h31;subst he;by_cases hkl:k<m.funcs.length
    ·have l0:decide ((k:Int)<(m.funcs.length:Int))=true:=Zt;have l1:decide (k<m.funcs.length)=true:=decide_eq_true hkl;obtain⟨g,o,rfl,_,hat⟩:=HFN.out (fun q=>by rw[q] at hkl; cases hkl);obtain⟨q0,q1,v,q2,hv⟩:=Yb9 m.funcs g o k hat hkl;obtain⟨asl,cs,rfl,hvs⟩:=hv;have hgl:=World.block_lt_of_cell? w _ q0;have p0:=(hT.below.cell (p:=⟨g,o+k*3,none⟩) hgl).trans q0;have p1:=(hT.below.cell (p:=⟨g,o+k*3+1,none⟩) hgl).trans q1;have p2:=(hT.below.cell (p:=⟨g,o+k*3+2,none⟩) hgl).trans q2;have hfo:=HFO.out _ (List.getElem_mem hkl);have hnx:=(Yo9 Y1 acc m.funcs k hkl).symm.trans hacc;have hsx:=Nat.le_trans (Yjs Y1 (m.funcs.drop (k+1)) _) (by rw[hnx]; exact HSZ.out);generalize m.funcs[k]=f at p0 p1 p2 q2 hvs hfo hnx hsx;have HV:=Zh (And.intro hvs hfo);have HNX:=Zh hnx;have HSX:=Zh hsx;obtain⟨V,hV⟩:∃V,V=wr.alloc (.cells #[.string f.name,.bool f.entry,.slice asl f.sents.len cs] 63):=⟨_,rfl⟩;have hVb:Below wr.heap.size wr V:=by rw[hV]; exact below_alloc1 _ _
     have hVn:V.heap[wr.heap.size]? =some (.cells #[.string f.name,.bool f.entry,.slice asl f.sents.len cs] 63 (0,0)):=by rw[hV]; exact heap_alloc_new _ _
     have hY:TyS w w1.heap.size #[.slice ae m.externs.length ce,.slice (some ⟨g,o,none⟩) m.funcs.length cf] (.func (.func 66) #[] #[]) acc F Ds wr.heap.size #[.string f.name,.bool f.entry,.slice asl f.sents.len cs] V:=⟨hT.keep hVb,hVn,fun e=>by have:=hT.bld.lt _ e; omega⟩;have hL:=Tryz.Builder_Len w1.heap.size w1.heap.size _ V hY.1.bld.isB;rw[Lib.byteCells_length] at hL;have HL:=Zh hL;have HY:=Zh hY;have HVV:=Zh hV;have hY1:(acc++YbJ (acc.length==0) f).length<=100000000000:=by have:=hsx; simp only[List.length_append] at this⊢; omega
     clear hvs hfo hnx hsx hat q0 q1 q2 hgl hV hVb hVn hY hL hT hacc;go_upto_region 10 with(fail)
     rw[<-HVV.out];have pp1:V.cell? ⟨wr.heap.size,1,none⟩=some (.bool f.entry):=by have:=HY.out.2.1; simp[World.cell?,this]
     clear HVV p0 p1 p2;go_wp2_with fail;refine HL.out.mono ?_;rintro e w2 ⟨rfl,rfl⟩;go_upto_if 36 with(fail)
     go_cut [] from 34 to 37 (fun wx=>Hid (∃F',TyS w w1.heap.size #[.slice ae m.externs.length ce,.slice (some ⟨g,o,none⟩) m.funcs.length cf] (.func (.func 66) #[] #[]) (acc++(if acc.length==0 then [] else [10])) F' Ds wr.heap.size #[.string f.name,.bool f.entry,.slice asl f.sents.len cs] wx))
     case first=>
      by_cases hn:acc.length=0
      ·have r0:¬0<acc.length:=by omega
       have HQ:Hid (∃F',TyS w w1.heap.size #[.slice ae m.externs.length ce,.slice (some ⟨g,o,none⟩) m.funcs.length cf] (.func (.func 66) #[] #[]) (acc++(if acc.length==0 then [] else [10])) F' Ds wr.heap.size #[.string f.name,.bool f.entry,.slice asl f.sents.len cs] w2):=Zh ⟨F,by rw[show(if acc.length==0 then ([]:List UInt8) else [10])=[] by simp[hn],List.append_nil]; exact HY.out⟩;clear hn;go_wp2;go_meet
       exact HQ
      ·have r0:0<acc.length:=by omega
       have HN:=Zh hn;clear hn;go_wp2_with fail;refine(HY.out.write ⟨#[10]⟩ (by show _+1<=_; rw[List.length_append] at hY1; omega)).mono ?_;rintro e w3 ⟨rfl,F3,hT3,_⟩;have HQ:Hid (∃F',TyS w w1.heap.size #[.slice ae m.externs.length ce,.slice (some ⟨g,o,none⟩) m.funcs.length cf] (.func (.func 66) #[] #[]) (acc++(if acc.length==0 then [] else [10])) F' Ds wr.heap.size #[.string f.name,.bool f.entry,.slice asl f.sents.len cs] w3):=Zh ⟨F3,by rw[show(if acc.length==0 then ([]:List UInt8) else [10])=[10] by simp[HN.out]]; exact hT3⟩;clear hT3;go_wp2_with fail;go_meet
       exact HQ
     case rest=>
      obtain⟨F2,hY2⟩:=Hid.out hcut;have HY2:=Zh hY2;have pp1:wc.cell? ⟨wr.heap.size,1,none⟩=some (.bool f.entry):=by have:=hY2.2.1; simp[World.cell?,this]
      clear hcut hY2 HY HL;go_upto_if 39 with(fail)
      obtain⟨en,hen⟩:∃en,en=f.entry:=⟨_,rfl⟩;rw[<-hen];go_cut [] from 38 to 40 (fun wx=>Hid (∃F',TyS w w1.heap.size #[.slice ae m.externs.length ce,.slice (some ⟨g,o,none⟩) m.funcs.length cf] (.func (.func 66) #[] #[]) (acc++(if acc.length==0 then [] else [10])++(if f.entry then [36,69,78,84,82,89,32] else [])) F' Ds wr.heap.size #[.string f.name,.bool f.entry,.slice asl f.sents.len cs] wx))
      case first=>
       have HEN:=Zh hen;clear hen pp1;cases en with
       |
        false=>
        have HQ:Hid (∃F',TyS w w1.heap.size #[.slice ae m.externs.length ce,.slice (some ⟨g,o,none⟩) m.funcs.length cf] (.func (.func 66) #[] #[]) (acc++(if acc.length==0 then [] else [10])++(if f.entry then [36,69,78,84,82,89,32] else [])) F' Ds wr.heap.size #[.string f.name,.bool f.entry,.slice asl f.sents.len cs] wc):=Zh ⟨F2,by rw[show(if f.entry then ([36,69,78,84,82,89,32]:List UInt8) else [])=[] by rw[<-HEN.out]; rfl,List.append_nil]; exact HY2.out⟩;go_wp2;go_meet
        exact HQ
       |
        true=>
        go_wp2_with fail;refine(HY2.out.write ⟨#[36,69,78,84,82,89,32]⟩ (by show _+7<=_; rw[List.length_append] at hY1⊢; split<;>simp<;>omega)).mono ?_;rintro e w3 ⟨rfl,F3,hT3,_⟩;have HQ:Hid (∃F',TyS w w1.heap.size #[.slice ae m.externs.length ce,.slice (some ⟨g,o,none⟩) m.funcs.length cf] (.func (.func 66) #[] #[]) (acc++(if acc.length==0 then [] else [10])++(if f.entry then [36,69,78,84,82,89,32] else [])) F' Ds wr.heap.size #[.string f.name,.bool f.entry,.slice asl f.sents.len cs] w3):=Zh ⟨F3,by rw[show(if f.entry then ([36,69,78,84,82,89,32]:List UInt8) else [])=[36,69,78,84,82,89,32] by rw[<-HEN.out]; rfl]; exact hT3⟩;clear hT3;go_wp2_with fail;go_meet
        exact HQ
      case rest=>
       obtain⟨F3,hY3⟩:=Hid.out hcut;have HY3:=Zh hY3;have pp0:wc.cell? ⟨wr.heap.size,0,none⟩=some (.string f.name):=by have:=hY3.2.1; simp[World.cell?,this]
       have hnm:f.name.size<=1000:=HV.out.2.2.2.2.1;have hns:(f.name++⟨#[32,123,10]⟩).size<=1000000000000:=by rw[ByteArray.size_append]; show _+3<=_; omega
       have hle3:(acc++(if acc.length==0 then [] else [10])++(if f.entry then [36,69,78,84,82,89,32] else [])).length<=100000000000:=by
        have:=hY1;simp only[YbJ,List.length_append] at this⊢;omega
       have HLE3:=Zh hle3;have HNS:=Zh hns;clear hcut hY3 HY2 pp1 hen hle3;go_wp2_with fail;have hWR:=HY3.out.write (f.name++⟨#[32,123,10]⟩) (by have h1:=HLE3.out; have h2:=HNS.out; omega);obtain⟨nm,hnm2⟩:∃nm,nm=f.name++(⟨#[32,123,10]⟩:ByteArray):=⟨_,rfl⟩;rw[<-hnm2] at hWR⊢;have HNM:=Zh hnm2;clear hnm2 hns hnm;refine hWR.mono ?_;clear hWR;rintro e w4 ⟨rfl,F4,hT4,_⟩;have hY4:TyS w w1.heap.size #[.slice ae m.externs.length ce,.slice (some ⟨g,o,none⟩) m.funcs.length cf] (.func (.func 66) #[] #[]) (acc++YbJ (acc.length==0) f) F4 Ds wr.heap.size #[.string f.name,.bool f.entry,.slice asl f.sents.len cs] w4:=by
        have e:acc++YbJ (acc.length==0) f=acc++(if acc.length==0 then [] else [10])++(if f.entry then [36,69,78,84,82,89,32] else [])++(f.name++⟨#[32,123,10]⟩).data.toList:=by simp[YbJ,ByteArray.data_append,List.append_assoc]
        rw[e,<-HNM.out];exact hT4
       have pp2:w4.cell? ⟨wr.heap.size,2,none⟩=some (.slice asl f.sents.len cs):=by have:=hY4.2.1; simp[World.cell?,this]
       have HY4:=Zh hY4;clear hT4 hY4 HY3 HNS HLE3 HNM;go_wp2_with fail;refine wp_loop (TzI w w1.heap.size #[.slice ae m.externs.length ce,.slice (some ⟨g,o,none⟩) m.funcs.length cf] (some ⟨g,o,none⟩) m.funcs.length cf k wr.heap.size #[.string f.name,.bool f.entry,.slice asl f.sents.len cs] asl cs f.sents (acc++YbJ (acc.length==0) f++lnsB Y1 (f.sents.linesB 2))) (fun a _=>f.sents.len - (intOf (a.tmps.getD 48 undef)).toNat) ?start2 ?round2
       case start2=>
        refine⟨rfl,rfl,rfl,rfl,rfl,rfl,rfl,rfl,rfl,0,f.sents,_,F4,Ds,rfl,rfl,Nat.zero_add _,fun q=>?_,HV.out.2.1,HV.out.2.2.2.1,HV.out.2.2.2.2.2,HY4.out,rfl⟩;obtain⟨g2,o2,e2,_,hat2⟩:=HV.out.1 q;exact⟨g2,o2,e2,by simpa using hat2⟩
       case round2=>
        clear pp2 pp0 HY4;rintro⟨tm,df⟩ wx ⟨hsz,h3,h7,h9,h29,h30,h31,h46,h47,j,rest,acc3,F5,Ds2,h48,hdf,hjl,htl,hroks,hrsz,hrln,hY5,hacc3⟩;dsimp only at hsz h3 h7 h9 h29 h30 h31 h46 h47 h48 hdf;subst hdf;obtain⟨u,he,hu⟩:∃u:Nat->Value,tm=#[u 0,u 1,u 2,u 3,u 4,u 5,u 6,u 7,u 8,u 9,u 10,u 11,u 12,u 13,u 14,u 15,u 16,u 17,u 18,u 19,u 20,u 21,u 22,u 23,u 24,u 25,u 26,u 27,u 28,u 29,u 30,u 31,u 32,u 33,u 34,u 35,u 36,u 37,u 38,u 39,u 40,u 41,u 42,u 43,u 44,u 45,u 46,u 47,u 48,u 49,u 50,u 51,u 52,u 53,u 54,u 55,u 56,u 57,u 58,u 59,u 60,u 61,u 62,u 63,u 64,u 65,u 66]/\∀k,tm.getD k undef=u k:=⟨fun k=>tm.getD k undef,(Ye7 tm 67 hsz).trans rfl,fun _=>rfl⟩;rw[hu] at h3 h7 h9 h29 h30 h31 h46 h47 h48;rw[h3,h7,h9,h29,h30,h31,h46,h47,h48] at he;clear hsz hu h3 h7 h9 h29 h30 h31 h46 h47 h48;subst he;have hs3:(acc3++lnsB Y1 (rest.linesB 2)++[125,10]).length<=100000000000:=by rw[hacc3]; exact HSX.out
        cases rest with
        |
         nil=>
         have hj:j=f.sents.len:=by simpa[Ss.len] using hjl
         have m0:decide ((j:Int)<(f.sents.len:Int))=false:=Zf;have m1:decide (j<f.sents.len)=false:=Zf;have hB:acc3=acc++YbJ (acc.length==0) f++lnsB Y1 (f.sents.linesB 2):=by rw[<-hacc3]; simp[Ss.linesB,lnsB]
         have hs4:acc3.length+2<=100000000000:=by simp only[List.length_append,List.length_cons,List.length_nil] at hs3; omega
         have HY5:=Zh hY5;have HBB:=Zh hB;clear hY5 hB hacc3 hs3 hrln hroks htl hjl hj;go_wp2_with fail;refine(HY5.out.write ⟨#[125,10]⟩ (by show _+2<=_; omega)).mono ?_;rintro e w5 ⟨rfl,F6,hT6,_⟩;have HT6:=Zh hT6.1;clear hT6;go_wp2_with fail;refine⟨⟨rfl,rfl,rfl,rfl,rfl,k+1,_,F6,Ds2,by go_num,by omega,rfl,HT6.out,by rw[HBB.out]; exact HNX.out⟩,?_⟩;show m.funcs.length - _<m.funcs.length - _;simp[Array.getD,intOf];omega
        |
         cons xl xt xr xs xb rest=>
         simp only[Ss.len] at hjl;have m0:decide ((j:Int)<(f.sents.len:Int))=true:=Zt;have m1:decide (j<f.sents.len)=true:=Zt;obtain⟨g3,o3,e3,hat3⟩:=htl Zs;subst e3;obtain⟨⟨x0,s0,v0⟩,⟨x1,s1,v1⟩,⟨x2,s2,v2⟩,⟨x3,s3,v3⟩,⟨ab,cb,s4,hb4⟩,hrest⟩:=hat3;have v4:SsV w (fun _=>True) (.slice ab xb.len cb) xb:=⟨ab,cb,rfl,hb4⟩;obtain⟨a0,c0,rfl⟩:∃a c,x0= .slice a xl.len c:=by obtain⟨a,c,e,_⟩:=v0; exact⟨a,c,e⟩
         obtain⟨a1,c1,rfl⟩:∃a c,x1= .slice a xt.length c:=by obtain⟨a,c,e,_⟩:=v1; exact⟨a,c,e⟩
         obtain⟨a2,c2,rfl⟩:∃a c,x2= .slice a xr.len c:=by obtain⟨a,c,e,_⟩:=v2; exact⟨a,c,e⟩
         obtain⟨a3,c3,rfl⟩:∃a c,x3= .slice a xs.len c:=by obtain⟨a,c,e,_⟩:=v3; exact⟨a,c,e⟩
         have hgl:=World.block_lt_of_cell? w _ s0;have t0:=(hY5.1.below.cell (p:=⟨g3,o3+j*5,none⟩) hgl).trans s0;have t1:=(hY5.1.below.cell (p:=⟨g3,o3+j*5+1,none⟩) hgl).trans s1;have t2:=(hY5.1.below.cell (p:=⟨g3,o3+j*5+2,none⟩) hgl).trans s2;have t3:=(hY5.1.below.cell (p:=⟨g3,o3+j*5+3,none⟩) hgl).trans s3;have t4:=(hY5.1.below.cell (p:=⟨g3,o3+j*5+4,none⟩) hgl).trans s4;obtain⟨V2,hV2⟩:∃V2,V2=wx.alloc (.cells #[.slice a0 xl.len c0,.slice a1 xt.length c1,.slice a2 xr.len c2,.slice a3 xs.len c3,.slice ab xb.len cb] 39):=⟨_,rfl⟩;have hV2b:Below wx.heap.size wx V2:=by rw[hV2]; exact below_alloc1 _ _
         have hV2n:V2.heap[wx.heap.size]? =some (.cells #[.slice a0 xl.len c0,.slice a1 xt.length c1,.slice a2 xr.len c2,.slice a3 xs.len c3,.slice ab xb.len cb] 39 (0,0)):=by rw[hV2]; exact heap_alloc_new _ _
         obtain⟨V3,hV3⟩:∃V3,V3=(V2.alloc (.cells #[.slice a0 xl.len c0,.slice a1 xt.length c1,.slice a2 xr.len c2,.slice a3 xs.len c3,.slice ab xb.len cb] 39)).alloc (.cells #[.int .i64 2] 3):=⟨_,rfl⟩;obtain⟨n0,n1,hV3b,hV3z⟩:=alloc2 V2 _ _ _ _ V3 hV3;have hb23:=hV2b.trans (hV3b.mono hV2b.size);have hY6:=hY5.keep hb23;have hbw:=hY6.1.below;have hlow:∀k,F5 k->w.heap.size<=k:=fun k e=>by have h1:=hY5.1.bld.low k e; have h2:=hY5.1.high; omega
         have hlt5:=hY5.1.bld.lt;have hV2z:V2.heap.size=wx.heap.size+1:=by rw[hV2]; simp
         have hSk:∀k,True->k<w.heap.size->V3.heap[k]? =w.heap[k]?:=fun k _ hk=>hbw.block k hk;have hST:∀k,True->k<w.heap.size->k<V3.heap.size/\¬F5 k:=fun k _ hk=>⟨Nat.lt_of_lt_of_le hk hbw.size,fun e=>by have:=hlow k e; omega⟩;have hsq:=Ynb xl xr xs xt xb a0 a1 a2 a3 ab xl.len xt.length xr.len xs.len xb.len c0 c1 c2 c3 cb 2 F5 V3 V2.heap.size (V2.heap.size+1) n0 (by simp[World.cell?,n1]) ⟨fun e=>by have:=hlt5 _ e; omega,fun e=>by have:=hlt5 _ e; omega⟩
          (v0.keep hSk hST) (v1.keep hSk hST) (v2.keep hSk hST) (v3.keep hSk hST) (v4.keep hSk hST) hroks.1 hroks.2.1 hroks.2.2.1 hroks.2.2.2.1 hroks.2.2.2.2.1 Zo (by simp only[Ss.sz] at hrsz; omega)
         have HSQ:=Zh hsq;have HY6:=Zh hY6;have HV2:=Zh hV2;have HV3:=Zh hV3;have HRS:=Zh (And.intro hrest (And.intro hroks.2.2.2.2.2 hrsz));have HRL:=Zh hrln;have HA3:=Zh hacc3;have HS3:=Zh hs3;have HLT:=Zh (And.intro hlt5 (And.intro hV2z hV3z));have pq:V2.cell? ⟨wx.heap.size,0,none⟩=some (.slice a0 xl.len c0):=by simp[World.cell?,hV2n]
         have pq1:V2.cell? ⟨wx.heap.size,1,none⟩=some (.slice a1 xt.length c1):=by simp[World.cell?,hV2n]
         have pq2:V2.cell? ⟨wx.heap.size,2,none⟩=some (.slice a2 xr.len c2):=by simp[World.cell?,hV2n]
         have pq3:V2.cell? ⟨wx.heap.size,3,none⟩=some (.slice a3 xs.len c3):=by simp[World.cell?,hV2n]
         have pq4:V2.cell? ⟨wx.heap.size,4,none⟩=some (.slice ab xb.len cb):=by simp[World.cell?,hV2n]
         clear hsq hY6 hY5 hbw hb23 hV2b hV2n hV3b n0 n1 hSk hST hlow hlt5 v0 v1 v2 v3 v4 hb4 hrest hroks hrsz hrln hacc3 hs3 s0 s1 s2 s3 s4 hgl hV2 hV3 hV2z hV3z htl;go_upto_region 18 with(fail)
         rw[<-HV2.out];clear t0 t1 t2 t3 t4;go_wp2_with fail;refine(lines_any _ _ _ _ _ _ _ _ _ _ _ _ _ _ _ _ _).mono ?_;rintro e w6 ⟨rfl,rfl⟩;go_wp2_with fail;rw[<-HV3.out];have hms:∀D∈Ds2,D<V3.heap.size:=fun D hD=>(Zg (HY6.out.1.marks D hD)).1;have hpl:wr.heap.size<V3.heap.size:=(Zg HY6.out.2.1).1;have HMS:=Zh (And.intro hms hpl);clear hms hpl;refine YlO (gf:=151) (lb:=#[.pointer (some ⟨V2.heap.size,0,none⟩),.pointer (some ⟨V2.heap.size+1,0,none⟩)]) rfl (enters_of Tryz.func151 (by kernel_rfl) rfl) HSQ.out rfl (fun q F2 X=>TyS w w1.heap.size #[.slice ae m.externs.length ce,.slice (some ⟨g,o,none⟩) m.funcs.length cf] (.func (.func 66) #[] #[]) (acc3++lnsB Y1 q) F2 Ds2 wr.heap.size #[.string f.name,.bool f.entry,.slice (some ⟨g3,o3,none⟩) f.sents.len cs] X) (fun k e=>by have h1:=HLT.out.1 k e; have h2:=HLT.out.2.1; have h3:=HLT.out.2.2; omega) (fun q F2=>TyS.stab HY6.out.1.bbl HMS.out.2 HMS.out.1) (by rw[show acc3++lnsB Y1 []=acc3 by simp[lnsB]]; exact HY6.out)
          ?assign ?body ?done
         case assign=>
          intro l2 x v X K hst hK;have hFn:∀f,(Fence.wide.inRound l2).fn f:=fun _=>trivial;have HST:=Zh hst;have HK:=Zh hK;obtain⟨av,cv,rfl⟩:∃a c,v= .slice a x.2.1.length c:=by obtain⟨a,c,e,_⟩:=hst; exact⟨a,c,e⟩
          clear hst hK;gi_wp2
          exact HK.out _ _ (below_alloc1 _ _) ⟨X.heap.size,_,rfl,heap_alloc_new _ _,JG.keep HST.out (fun k _ hk=>(below_alloc1 X _).block k hk) (fun _ _ _=>trivial)⟩
         case body=>
          intro l2 q x r F2 X a' hxs hXz hF2 hI hax;obtain⟨z,v,rfl,hz,hst⟩:=hax;have hFn:∀f,(Fence.wide.inRound l2).fn f:=fun _=>trivial;have hxm:x∈(Ss.cons xl xt xr xs xb rest).linesB 2:=by rw[YaG,hxs]; simp
          have hlx:=HRL.out x hxm;have hsl:(acc3++lnsB Y1 q).length+((Y1 x).size+1)<=100000000000:=by
           have h1:=HS3.out;rw[YaG,hxs] at h1;have h2:=Yqg Y1 q r x;rw[Yer] at h1;simp only[List.length_append] at h1⊢;omega
          have hsn:lnsB Y1 (q++[x])=lnsB Y1 q++(Y1 x++⟨#[10]⟩).data.toList:=Ym9 Y1 q x;obtain⟨xi,xw,xe⟩:=x;obtain⟨ci,hci,hci2⟩:=hlx.ind;dsimp only at hci;subst hci;have hlw:Y1 ((ci:Int),xw,xe)=Yjj ci xw xe:=by simp[Y1]
          rw[hlw] at hsl hsn;have fb:X.cell? ⟨w.heap.size+1,0,none⟩=some (.func (.func 66) #[] #[]):=hI.1.fbox;have z0:X.cell? ⟨z,0,none⟩=some (.int .i64 ci):=by simp[World.cell?,hz]
          have z1:X.cell? ⟨z,1,none⟩=some v:=by simp[World.cell?,hz]
          have z2:X.cell? ⟨z,2,none⟩=some (.bool xe):=by simp[World.cell?,hz]
          have HWL:=Zh (YlJ ci v xw xe X hst hlx.words hlx.few hlx.small hci2 hlx.joined);obtain⟨av,cv,rfl⟩:∃a c,v= .slice a xw.length c:=by obtain⟨a,c,e,_⟩:=hst; exact⟨a,c,e⟩
          have hI2:=Zh hI;have HSN:=Zh hsn;have hss:(Yjj ci xw xe).size<=100000000000:=Zo;have HSL:=Zh hsl;have HF2:=Zh hF2;clear hxm hlx hsn hlw hst hz hI hsl hF2;generalize Yjj ci xw xe=LT at*;simp only[List.setIfInBounds_toArray,List.set_cons_succ,List.set_cons_zero];gi_wp2_with fail
          refine(CallsIn.inRound l2 (callsIn_wide.2 HWL.out)).mono ?_;rintro e w7 ⟨rfl,hb7⟩;have HY7:=Zh (hI2.out.keep hb7);have HB7:=Zh hb7;have hsum:(LT++(⟨#[10]⟩:ByteArray)).size<=1000000000000:=by rw[ByteArray.size_append]; show _+1<=_; omega
          clear hb7;gi_wp2_with fail
          have hWR:=HY7.out.write (LT++(⟨#[10]⟩:ByteArray)) (by have h1:=HSL.out; rw[ByteArray.size_append]; show _+(_+1)<=_; omega);obtain⟨nm,hnm2⟩:∃nm,nm=LT++(⟨#[10]⟩:ByteArray):=⟨_,rfl⟩;rw[<-hnm2] at hWR⊢;have HNM:=Zh hnm2;clear hnm2 hsum hss;refine(CallsIn.inRound l2 (callsIn_wide.2 hWR)).mono ?_;clear hWR;rintro e w8 ⟨rfl,F8,hT8,hG8⟩;have HQ:Hid (∃F',TyS w w1.heap.size #[.slice ae m.externs.length ce,.slice (some ⟨g,o,none⟩) m.funcs.length cf] (.func (.func 66) #[] #[]) (acc3++lnsB Y1 (q++[((ci:Int),xw,xe)])) F' Ds2 wr.heap.size #[.string f.name,.bool f.entry,.slice (some ⟨g3,o3,none⟩) f.sents.len cs] w8/\Grow F2 F' X w8):=Zh ⟨F8,by rw[HSN.out,<-List.append_assoc,<-HNM.out]; exact hT8,Grow.after (Keep.of_below HB7.out) hG8⟩;clear hT8 hG8;gi_wp2
          exact HQ.out
         case done=>
          intro F2 X hI hG hD hXz hne;have hM:TyS w w1.heap.size #[.slice ae m.externs.length ce,.slice (some ⟨g,o,none⟩) m.funcs.length cf] (.func (.func 66) #[] #[]) (acc3++lnsB Y1 (YM 2 xl xt xr xs xb)) F2 (V3.heap.size::Ds2) wr.heap.size #[.string f.name,.bool f.entry,.slice (some ⟨g3,o3,none⟩) f.sents.len cs] X:=hI.mark hD HY6.out.1.below.size hne (fun e=>Nat.lt_irrefl _ (HMS.out.1 _ e));have HM2:=Zh hM;have hfl:f.sents.len<=1000000:=HV.out.2.2.1;clear hM hI hG hD hXz hne;dsimp only;go_wp2_with fail;refine⟨⟨rfl,rfl,rfl,rfl,rfl,rfl,rfl,rfl,rfl,j+1,rest,_,F2,V3.heap.size::Ds2,by go_num,rfl,by omega,fun q=>⟨g3,o3,rfl,by rw[show o3+(j+1)*5=o3+j*5+5 by omega]; exact HRS.out.1⟩,HRS.out.2.1,by have:=HRS.out.2.2; simp only[Ss.sz] at this; omega,fun x hx=>HRL.out x (by rw[YaG]; exact List.mem_append_right _ hx),HM2.out,by rw[<-HA3.out,YaG,Yer,List.append_assoc]⟩,?_⟩;show f.sents.len - _<f.sents.len - _;simp[Array.getD,intOf];omega
    ·have l0:decide ((k:Int)<(m.funcs.length:Int))=false:=Zf;have l1:decide (k<m.funcs.length)=false:=decide_eq_false hkl;have hA:acc=YfD Y1 m:=by rw[<-hacc,List.drop_eq_nil_of_le Zo]; rfl
     have HS:=Zh (Tryz.Builder_String_any_k w1.heap.size w1.heap.size acc wr (Lib.IsBuilderF.of hT.bld.isB) (Nat.le_of_lt hT.bbl));have HT:=Zh hT;have HA:=Zh hA;clear hT hacc hA;go_wp2_with fail;refine HS.out.mono ?_;rintro e w4 ⟨rfl,_,hb4,hO4⟩;have HM4:Hid (∀D∈Ds,w4.heap[D]? =some (.deferred (some []))):=Zh fun D hD=>hO4 D _ (HT.out.marks D hD) (fun e=>by cases e; exact(HT.out.nF w1.heap.size hD).2 (by obtain⟨_,_,_,_,_,_,h5⟩:=HT.out.bld.ex; exact(h5 _).2 (.inl rfl))) (fun _ _ e=>by cases e);have HB4:=Zh (HT.out.below.trans (hb4.mono (by have:=HT.out.high; omega)));clear hb4 hO4 HS;go_wp2_with fail;refine(Yjl _ _).mono ?_;rintro e w5 ⟨rfl,rfl⟩;go_wp2_with fail;refine Ygh rfl rfl Ds w5 HM4.out HT.out.nodup (fun W' hK=>⟨by rw[HR.out,<-HA.out]; rfl,HB4.out.trans (hK.below HB4.out.size (fun i hi e=>by have:=(HT.out.nF i e).1; omega))⟩)
 ·have e1:(Yat m==0)=false:=by simpa using hfo
  have e2:(Yat m != 0)=true:=by simpa using hfo
  have HR:Hid (YfC Y1 m=(⟨#[]⟩,Yat m)):=Zh (by unfold YfC; rw[if_neg hfo]);generalize Yat m=R at*;clear hfo;go_wp2_with fail;refine Ygh (s:=⟨#[]⟩) (n:=R) rfl rfl [] w1 Zs Zs (fun W' hK=>⟨by rw[HR.out],HB1.out.trans (hK.below HB1.out.size (fun i hi e=>by simp at e))⟩)
end
def sumW:List (List UInt8)->Nat
 |[]=>0
 |x::l=>x.length+1+sumW l
theorem Yaz:∀a b,sumW (a++b)=sumW a+sumW b
 |[],b=>by simp[sumW]
 |x::a,b=>by rw[List.cons_append,sumW,sumW,Yaz a b]; omega
theorem YjV:∀(l:List (List UInt8)),∀x∈l,x.length<=sumW l
 |[],x,h=>by simp at h
 |
  y::l,x,h=>by
  rw[sumW];rcases List.mem_cons.1 h with rfl | h
  ·omega
  ·have:=YjV l x h; omega
theorem YjW:∀l:List (List UInt8),l.length<=sumW l
 |[]=>Nat.le_refl _
 |x::l=>by have:=YjW l; rw[sumW,List.length_cons]; omega
theorem Ycp (e:List UInt8):∀(ws:List (List UInt8)) (last:List UInt8) (j:Bool),sumW (YJ e last j ws)<=sumW ws+last.length+e.length+1
 |[],last,j=>by cases j<;>simp[YJ,sumW]
 |
  x::r,last,true=>by
  have:=Ycp e r (last++x) false;rw[List.length_append] at this;rw[YJ,sumW]; omega
 |
  x::r,last,false=>by
  have:=Ycp e r x false;rw[YJ,sumW,sumW]; omega
theorem Ynl {k:Int}{t:ByteArray}(h1:¬k=1)(h4:¬k=4)(h8:¬k=8):(Jt none none k t true []).length<=4*t.size+2:=by
 have hz:t.data.toList.length=t.size:=Array.length_toList;have e:Jt none none k t true []=(if k=2 then (if Yh 60 t=true then t.data.toList else 34::(t.data.toList.flatMap (escT 34)++[34])) else if k=3 then t.data.toList else (YaO k t).data.toList):=by
  unfold Jt;rw[if_neg h1,if_neg h4,if_neg h8];simp
 rw[e];split
 ·split
  ·omega
  ·have:=Ya2 34 t.data.toList;simp only[List.length_cons,List.length_append,List.length_nil];omega
 ·split
  ·omega
  ·have:=Ye5 k t;have h2:(YaO k t).data.toList.length=(YaO k t).size:=Array.length_toList;omega
theorem YaH:∀T:Ts,sumW T.words<=8*T.wt
 |.nil=>by simp[Ts.words,sumW]
 |
  .cons k t kids rest=>by
  have h1:=YaH kids;have h2:=YaH rest;rw[Ts.words,Ts.wt];by_cases k4:k=4
  ·rw[if_pos k4,Yaz];have:=Ycp [41] kids.words [40] true;simp at this;omega
  ·rw[if_neg k4];by_cases k8:k=8
   ·rw[if_pos k8,Yaz];have:=Ycp [62] kids.words (60::t.data.toList) false;have hz:t.data.toList.length=t.size:=Array.length_toList;rw[List.length_cons] at this;simp only[List.length_cons,List.length_nil] at this;omega
   ·rw[if_neg k8];by_cases k1:k=1
    ·rw[if_pos k1];have he:=Ybz 39 (bu t 0);unfold Yhy;split
     ·cases hr:rest.words with
      |nil=>simp[sumW]
      |
       cons x r=>
       rw[hr] at h2;simp only[sumW,List.length_cons,List.length_append,List.length_drop] at h2⊢;omega
     ·simp only[sumW,List.length_cons,List.length_append,List.length_nil];omega
    ·rw[if_neg k1,sumW];have:=Ynl (t:=t) k1 k4 k8;omega
theorem YhG:∀t:List (Ts×Ts),sumW (t.flatMap fun p=>[44]::(p.1.words++[58]::p.2.words))<=8*Jy t
 |[]=>by simp[sumW]
 |
  p::t=>by
  have h:=YhG t;have h1:=YaH p.1;have h2:=YaH p.2;rw[List.flatMap_cons,Yaz,sumW,Yaz,sumW,Jy];simp only[List.length_cons,List.length_nil];omega
theorem Yo5 (l:Ts)(t:List (Ts×Ts))(r s:Ts)(b:Bool):sumW (Yc5 l t r s b)<=8*(1+l.wt+Jy t+r.wt+s.wt):=by
 have h1:=YaH l;have h2:=YhG t;have h3:=YaH r;have h4:=YaH s;unfold Yc5;rw[Yaz,Yaz];cases b with
 |
  true=>
  rw[if_pos rfl,sumW];simp only[List.length_cons,List.length_nil];omega
 |
  false=>
  rw[if_neg Zd,sumW,Yaz];simp only[sumW,List.length_cons,List.length_nil];omega
theorem head_ne (l:Ts)(t:List (Ts×Ts))(r s:Ts)(b:Bool):¬Yc5 l t r s b=[]:=by
 unfold Yc5;cases b<;>simp
theorem Yj1 (ws:List (List UInt8))(ends:Bool):sumW (YfB ws ends)<=sumW ws+2:=by
 cases ends with
 |false=>show sumW ws<=_; omega
 |
  true=>
  unfold YfB;rw[if_pos rfl];by_cases h:ws=[]
  ·subst h; simp[sumW]
  ·obtain⟨a,b,rfl⟩:∃a b,ws=a++[b]:=⟨_,_,(List.dropLast_concat_getLast h).symm⟩;simp[Yaz,sumW];omega
theorem Yhc (sep:List UInt8)(hs:sep.length<=1):∀ws:List (List UInt8),(JC sep ws).length<=sumW ws
 |[]=>Nat.le_refl _
 |[x]=>by simp[JC,sumW]
 |
  x::y::r=>by
  have:=Yhc sep hs (y::r);rw[JC,sumW,List.length_append,List.length_append];omega
structure LnOk (l:Nat×List (List UInt8)×Bool):Prop where
 ind:l.1<=100000
 ne:¬l.2.1=[]
 len:sumW l.2.1<=1000000
def Jv (ls:List (Nat×List (List UInt8)×Bool)):Nat:=(ls.map fun l=>(Yc4 l).length+1).sum
theorem Yc3:∀(S:Ss) (ind:Nat),ind+2*S.wt<=100000->(∀l∈S.wLines ind,LnOk l)/\Jv (S.wLines ind)<=300000*S.wt
 |.nil,_,_=>⟨fun l hl=>by simp[Ss.wLines] at hl,by simp[Ss.wLines,Jv]⟩
 |
  .cons l t r s k rest,ind,h=>by
  rw[Ss.wt] at h;obtain⟨g1,g2⟩:=Yc3 rest ind Zo;have hh:=Yo5 l t r s (k.len==0);have hne:=head_ne l t r s (k.len==0);have hln:(Yc4 (ind,Yc5 l t r s (k.len==0),k.len==0)).length<=ind+(8*(1+l.wt+Jy t+r.wt+s.wt)+2):=by
   unfold Yc4;dsimp only;rw[List.length_append,List.length_replicate];have e1:=Yhc [32] Zs (YfB (Yc5 l t r s (k.len==0)) (k.len==0));have e2:=Yj1 (Yc5 l t r s (k.len==0)) (k.len==0);omega
  have hsum:∀a b,Jv (a++b)=Jv a+Jv b:=fun a b=>by unfold Jv; rw[List.map_append,List.sum_append]
  have hcons:∀x b,Jv (x::b)=(Yc4 x).length+1+Jv b:=fun x b=>by unfold Jv; rw[List.map_cons,List.sum_cons]
  unfold Ss.wLines;rw[hcons,hsum];by_cases hk:k.len=0
  ·rw[if_pos hk];refine⟨fun x hx=>?_,?_⟩
   ·rw[List.nil_append] at hx;rcases List.mem_cons.1 hx with rfl | hx
    ·exact⟨by show ind<=_; omega,hne,by show sumW (Yc5 l t r s (k.len==0))<=1000000; omega⟩
    ·exact g1 x hx
   ·have z:Jv []=0:=rfl;rw[z,Ss.wt];omega
  ·rw[if_neg hk];obtain⟨q1,q2⟩:=Yc3 k (ind+2) Zo;have he:(Yc4 (ind,[[125]],true)).length<=ind+2:=by
    unfold Yc4;rw[List.length_append,List.length_replicate];exact Nat.le_refl _
   refine⟨fun x hx=>?_,?_⟩
   ·rw[List.mem_cons,List.mem_append,List.mem_append,List.mem_singleton] at hx;rcases hx with rfl | (hx | rfl) | hx
    ·exact⟨by show ind<=_; omega,hne,by show sumW (Yc5 l t r s (k.len==0))<=1000000; omega⟩
    ·exact q1 x hx
    ·exact⟨by show ind<=_; omega,by simp,by show sumW [[125]]<=1000000; decide⟩
    ·exact g1 x hx
   ·rw[hsum,hcons];have z:Jv []=0:=rfl;rw[z,Ss.wt];omega
def lnB (l:Nat×List (List UInt8)×Bool):Yu:=((l.1:Int),l.2.1.map bA,l.2.2)
theorem Ydg:∀(S:Ss) (ind:Nat),S.linesB ind=(S.wLines ind).map lnB
 |.nil,_=>rfl
 |
  .cons l t r s k rest,ind=>by
  unfold Ss.linesB Ss.wLines;rw[List.map_cons,List.map_append,Ydg rest ind,<-Yo7];congr 2
  split
  ·rfl
  ·have:=Ydg k (ind+2);rw[List.map_append,<-this];rfl
theorem Yn2 (l:List UInt8):(bA l).data.toList=l:=by simp[bA]
theorem Yng (sep:List UInt8):∀ws:List (List UInt8),Lib.join ws sep=JC sep ws
 |[]=>rfl
 |[x]=>Lib.join_one x sep
 |
  x::y::r=>by
  have:=Yng sep (y::r);rw[JC,<-this];simp[Lib.join,List.intercalate]
theorem Yhd (sep:ByteArray)(ws:List (List UInt8)):YbN sep (ws.map bA)=bA (JC sep.data.toList ws):=by
 unfold YbN bA;rw[List.map_map,<-Yng];congr 3
 have:((fun x:ByteArray=>x.data.toList)∘fun l:List UInt8=>(⟨l.toArray⟩:ByteArray))=id:=by funext l; simp
 rw[this,List.map_id]
theorem Yj2 {ws:List (List UInt8)}(ends:Bool)(h:¬ws=[]):YbL (ws.map bA) ends=(YfB ws ends).map bA:=by
 cases ends with
 |false=>rfl
 |
  true=>
  obtain⟨a,b,rfl⟩:∃a b,ws=a++[b]:=⟨_,_,(List.dropLast_concat_getLast h).symm⟩;unfold YbL YfB;rw[if_pos rfl,if_pos rfl];have e:(⟨#[59]⟩:ByteArray)=bA [59]:=rfl;simp[e,YiP,List.getD]
theorem Yh5:∀n,Lib.repeatL [32] n=List.replicate n 32
 |0=>rfl
 |n+1=>by rw[Lib.repeatL,Yh5 n]; rfl
theorem YoY {l:Nat×List (List UInt8)×Bool}(h:¬l.2.1=[]):Y1 (lnB l)=bA (Yc4 l):=by
 unfold Y1 lnB Yjj Yc4;dsimp only;rw[Yj2 _ h,Yhd,YiP];congr 1
 unfold YeM bA;congr 2
 show Lib.repeatL [32] ((l.1:Int).toNat)=_;rw[Int.toNat_natCast];exact Yh5 l.1
theorem Yna:∀ls:List (Nat×List (List UInt8)×Bool),(∀l∈ls,¬l.2.1=[])->lnsB Y1 (ls.map lnB)=ls.flatMap fun l=>Yc4 l++[10]
 |[],_=>rfl
 |
  x::ls,h=>by
  have ih:=Yna ls fun l hl=>h l (List.mem_cons_of_mem _ hl);unfold lnsB at ih⊢;rw[List.map_cons,List.flatMap_cons,ih,YoY (h x Zs),Yn2,List.flatMap_cons]
theorem Ykk:∀ls:List (Nat×List (List UInt8)×Bool),(ls.flatMap fun l=>Yc4 l++[10]).length=Jv ls
 |[]=>rfl
 |
  x::ls=>by
  rw[List.flatMap_cons,List.length_append,Ykk ls];unfold Jv;simp
theorem YeD:∀(S:Ss) (ind:Nat),∀l∈S.wLines ind,¬l.2.1=[]
 |.nil,_,l,hl=>by simp[Ss.wLines] at hl
 |
  .cons l t r s k rest,ind,x,hx=>by
  unfold Ss.wLines at hx;rw[List.mem_cons,List.mem_append] at hx;rcases hx with rfl | hx | hx
  ·exact head_ne _ _ _ _ _
  ·by_cases hk:k.len=0
   ·rw[if_pos hk] at hx; simp at hx
   ·rw[if_neg hk,List.mem_append,List.mem_singleton] at hx;rcases hx with hx | rfl
    ·exact YeD k (ind+2) x hx
    ·simp
  ·exact YeD rest ind x hx
theorem YpK:∀(l:List Fn) (acc:List UInt8),YaT Y1 acc l=acc++YbP (acc.length==0) l
 |[],acc=>by simp[YaT,YbP]
 |
  f::l,acc=>by
  have e:=Yna (f.sents.wLines 2) (YeD f.sents 2);have e2:f.sents.linesB 2=(f.sents.wLines 2).map lnB:=Ydg f.sents 2;rw[YaT,e2,e,YpK l];have z:((acc++YbJ (acc.length==0) f++(f.sents.wLines 2).flatMap (fun l=>Yc4 l++[10])++[125,10]).length==0)=false:=Zs;rw[z,YbP];unfold YbJ YkX;simp
theorem Yq3 (l:List ByteArray):Yau l=wExt l:=by
 unfold Yau wExt;split
 ·rfl
 ·have:YbN ⟨#[44,32]⟩ l=bA (JC [44,32] (l.map fun s=>s.data.toList)):=by
   have h:=Yhd ⟨#[44,32]⟩ (l.map fun s=>s.data.toList);rw[List.map_map] at h;have e:(bA∘fun s:ByteArray=>s.data.toList)=id:=by funext s; exact Yn1 s
   rw[e,List.map_id] at h;exact h
  rw[this,Yn2]
theorem YjS (m:Md):YfD Y1 m=wText m:=by
 unfold YfD wText;rw[YpK,Yq3];congr 2
 unfold wExt;by_cases h:m.externs.length=0
 ·rw[if_pos h,h]; rfl
 ·rw[if_neg h];have:(m.externs.length==0)=false:=by simpa using h
  rw[this];simp
theorem YfN:∀(l:List Fn) (first:Bool),4+2*YcS l<=100000->(YbP first l).length<=300020*YcS l
 |[],_,_=>by simp[YbP]
 |
  f::l,first,h=>by
  rw[YcS] at h;have ih:=YfN l false Zo;obtain⟨_,h2⟩:=Yc3 f.sents 2 Zo;have h3:=Ykk (f.sents.wLines 2);have hz:f.name.data.toList.length=f.name.size:=Array.length_toList;rw[YbP,YcS,List.length_append];have:(YkX first f).length<=1+(7+(f.name.size+(3+(Jv (f.sents.wLines 2)+2)))):=by
   unfold YkX;simp only[List.length_append,h3,hz];have e1:(if first=true then ([]:List UInt8) else [10]).length<=1:=by split<;>simp
   have e2:(if f.entry=true then ([36,69,78,84,82,89,32]:List UInt8) else []).length<=7:=by split<;>simp
   simp only[List.length_cons,List.length_nil];omega
  omega
theorem YiH:∀l:List ByteArray,(JC [44,32] (l.map fun s=>s.data.toList)).length<=2*Ycs l
 |[]=>by simp[JC]
 |
  [x]=>by
  have hz:x.data.toList.length=x.size:=Array.length_toList;simp only[List.map_cons,List.map_nil,JC,Ycs]; omega
 |
  x::y::l=>by
  have ih:=YiH (y::l);have hz:x.data.toList.length=x.size:=Array.length_toList;rw[List.map_cons] at ih;rw[List.map_cons,List.map_cons,JC,List.length_append,List.length_append,Ycs];simp only[List.length_cons,List.length_nil];omega
theorem Ymd {m:Md}(h:m.wt<=40000):(YfD Y1 m).length<=100000000000:=by
 unfold Md.wt at h;rw[YjS];unfold wText;rw[List.length_append];have h1:=YfN m.funcs (m.externs.length==0) Zo;have h2:=YiH m.externs;have h3:(wExt m.externs).length<=2*Ycs m.externs+20:=by
  unfold wExt;split
  ·simp
  ·simp only[List.length_append,List.length_cons,List.length_nil];omega
 omega
theorem YiD:∀(l:List Fn),∀f∈l,f.sents.wt<=YcS l
 |[],f,h=>by simp at h
 |
  x::l,f,h=>by
  rw[YcS];rcases List.mem_cons.1 h with rfl | h
  ·omega
  ·have:=YiD l f h; omega
theorem YiC:∀(l:List Fn),Jw l=0->∀f∈l,Yh 40 f.name=true/\f.sents.form 0=0
 |[],_,f,h=>by simp at h
 |
  x::l,hc,f,h=>by
  obtain⟨h1,_,h3,h4⟩:=Ycl hc;rcases List.mem_cons.1 h with rfl | h
  ·exact⟨h1,h3⟩
  ·exact YiC l h4 f h
theorem YeF:∀t:List (Ts×Ts),3*t.length<=Jy t
 |[]=>Nat.le_refl _
 |x::t=>by have:=YeF t; rw[Jy,List.length_cons]; omega
theorem Ykm:∀S:Ss,S.len<=S.wt/\S.sz<=S.wt
 |.nil=>⟨Nat.le_refl _,Nat.le_refl _⟩
 |
  .cons l t r s k rest=>by
  obtain⟨h1,h2⟩:=Ykm rest;obtain⟨h3,h4⟩:=Ykm k;rw[Ss.len,Ss.wt,Ss.sz];exact⟨by omega,by omega⟩
theorem YjT:∀t:List (Ts×Ts),J5 t=0->YcK t
 |[],_,p,h=>by simp at h
 |
  x::t,hc,p,h=>by
  obtain⟨h1,h2⟩:=Ye.1 hc;obtain⟨h3,h4⟩:=Ye.1 h1;rcases List.mem_cons.1 h with rfl | h
  ·exact⟨Ybe Zd h3,Ybe Zd h4⟩
  ·exact YjT t h2 p h
theorem YpH:Ts.nil.ok:=⟨Nat.zero_le _,Nat.zero_le _,rfl⟩
theorem YmU:∀(S:Ss) (blocks:Nat),S.form blocks=0->S.wt<=30000->S.okS
 |.nil,_,_,_=>trivial
 |
  .cons l t r s k rest,blocks,hf,hw=>by
  rw[Ss.wt] at hw;obtain⟨f1,f2,f3,f4,f5⟩:=Ycm hf;have ht:=YeF t;have hkw:=Ykm k;refine⟨Ybe Zd f1,⟨YjT t f2,by omega⟩,?_,?_,⟨?_,by omega⟩,YmU rest blocks f5 Zo⟩
  ·by_cases hk:k.len=0
   ·exact Ybe Zd (f3 hk).2
   ·rw[(f4 hk).1]; exact YpH
  ·by_cases hk:k.len=0
   ·rw[(f3 hk).1]; exact YpH
   ·exact Ybe Zd (f4 hk).2.2.1
  ·by_cases hk:k.len=0
   ·rw[(Ss.len_zero k).1 hk]; trivial
   ·exact YmU k (blocks+1) (f4 hk).2.2.2 Zo
theorem YqY {l:Nat×List (List UInt8)×Bool}(h:LnOk l):YkT Y1 (lnB l):=by
 obtain⟨h1,h2,h3⟩:=h;refine⟨?_,?_,?_,⟨l.1,rfl,by omega⟩,?_⟩
 ·show l.2.1.map bA≠[];simpa using h2
 ·show(l.2.1.map bA).length<=_;have:=YjW l.2.1;rw[List.length_map]; omega
 ·intro s hs;obtain⟨x,hx,rfl⟩:=List.mem_map.1 (show s∈l.2.1.map bA from hs);have:=YjV l.2.1 x hx;rw[YbE]; omega
 ·show(YbN ⟨#[32]⟩ (YbL (l.2.1.map bA) l.2.2)).size<=_;rw[Yj2 _ h2,Yhd,YbE];have e1:=Yhc [32] Zs (YfB l.2.1 l.2.2);have e2:=Yj1 l.2.1 l.2.2;show(JC [32] _).length<=_;omega
theorem Ypa {m:Md}(hm:Yat m=0)(hw:m.wt<=30000):YpB m:=by
 intro f hf;obtain⟨_,h2⟩:=Jz.1 hm;obtain⟨g1,g2⟩:=YiC m.funcs h2 f hf;have hwf:=YiD m.funcs f hf;unfold Md.wt at hw;have hl:=Ykm f.sents;have hn:=Yb7 g1;refine⟨YmU f.sents 0 g2 Zo,by omega,by omega,by omega,fun x hx=>?_⟩;have e2:f.sents.linesB 2=(f.sents.wLines 2).map lnB:=Ydg f.sents 2;rw[e2] at hx;obtain⟨l,hl,rfl⟩:=List.mem_map.1 hx;exact YqY ((Yc3 f.sents 2 Zo).1 l hl)
end Go.Proofs.YteamjdmhdfjopaaGreatDoor
