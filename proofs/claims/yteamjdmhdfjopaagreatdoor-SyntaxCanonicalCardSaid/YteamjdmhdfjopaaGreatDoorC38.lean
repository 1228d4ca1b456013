/- A part of the proof; it holds the texts Wrj Wrk Wrl Wrm Wrn Wro (names and blanks shortened). -/
import Derived.Test.YteamjdmhdfjopaaGreatDoorC37
import Derived.Test.YteamjdmhdfjopaaGreatDoorC18
import Derived.Test.YteamjdmhdfjopaaGreatDoorC33
import Derived.Test.YteamjdmhdfjopaaGreatDoorC6
import Derived.Test.YteamjdmhdfjopaaGreatDoorC4
namespace Go.Proofs.YteamjdmhdfjopaaGreatDoor
open Go.RowKit
set_option maxRecDepth 100000
set_option maxHeartbeats 8000000
set_option linter.unusedVariables false
set_option linter.unusedSimpArgs false
set_option linter.unnecessarySimpa false
def YfE (T:Ts):ByteArray×Int:=if Yy 8 T=0 then limB (Ydw T) else (⟨#[]⟩,Yy 8 T)
theorem Yps (T:Ts)(v:Value)(w:World)(hT:TsV w (fun _=>True) v T)(hbig:T.nodes<=1000000000000)(hsm:T.small):
 Calls Tryz.prog 201 #[v] w fun e w'=>e= .returned (.tuple #[.string (YfE T).1,.int .i64 (YfE T).2])/\Below w.heap.size w w':=by
 have hC:=Ycq T v w hT hbig hsm;unfold CkQ at hC;obtain⟨ao,cap,rfl⟩:=hT.form;by_cases hf:Yy 8 T=0
 ·have HX:Hid (YfE T=limB (Ydw T)):=Zh (by unfold YfE; rw[if_pos hf]);obtain⟨h1,_,h3⟩:=Yab.1 hf;rw[hf] at hC;have HT:=Zh hT;have HR:=Zh h3;have HWL:=Zh (YfM T none h3);clear hf hT h3 hsm;go_enter Tryz.func201,Tryz.ntmps201;go_wp2_with fail;refine hC.mono ?_;rintro e w1 ⟨rfl,hb1⟩;have HB1:=Zh hb1;clear hb1 hC;go_wp2_with fail;obtain⟨V,hV⟩:∃V,V=w1.alloc (.cells #[.pointer none,.slice none 0 0] 142):=⟨_,rfl⟩;have hn:V.heap[w1.heap.size]? =some (.cells #[.pointer none,.slice none 0 0] 142 (0,0)):=by rw[hV]; exact heap_alloc_new _ _
  have hbV:Below w1.heap.size w1 V:=by rw[hV]; exact below_alloc1 _ _
  have hIV:IsB w1.heap.size w1.heap.size [] V:=.inl ⟨Nat.le_refl _,_,hn,⟨rfl,.inl ⟨rfl,rfl⟩⟩,by simp[Value.ownBlock]⟩;rw[<-hV];have hlt:=(Zg hn).1;have hTV:TsV V (fun k=>k<w1.heap.size) (.slice ao T.len cap) T:=HT.out.keep (fun k _ hk=>(hbV.block k (Nat.lt_of_lt_of_le hk HB1.out.size)).trans (HB1.out.block k hk)) (fun k _ hk=>Nat.lt_of_lt_of_le hk HB1.out.size);have HWR:=Zh (Yog w1.heap.size w1.heap.size (T.nodes+1) T _ [] V Zo HR.out hTV hIV hlt (Nat.le_refl _) (by simp; omega));have HBV:=Zh hbV;clear hV hn hIV hTV hbV;refine HWR.out.mono ?_;rintro e w2 ⟨rfl,hI2,hO2⟩;rw[List.nil_append] at hI2;have HI2:=Zh hI2;have HB2:Hid (Below w.heap.size w w2):=Zh (HB1.out.trans ((HBV.out.trans hO2.below).mono HB1.out.size));have hsz2:w1.heap.size<=w2.heap.size:=by have:=hO2.size; omega
  have hL:=Tryz.Builder_Len w1.heap.size w1.heap.size _ w2 hI2;rw[Lib.byteCells_length] at hL;have HL:=Zh hL;have HS:=Zh (Tryz.Builder_String_any w1.heap.size w1.heap.size (T.wr none) w2 hI2 hsz2);clear HWR hI2 hO2 hL;have hwl:=HWL.out;have e0:(Ydw T).size=(T.wr none).length:=YbE _;by_cases h4:40000<(T.wr none).length
  ·have HQ:Hid (YfE T=(⟨#[]⟩,7)):=Zh (by rw[HX.out]; unfold limB; rw[e0,if_pos h4]);have l1:decide ((40000:Int)<((T.wr none).length:Int))=true:=Zt;clear h4 e0;go_wp2_with fail;refine HL.out.mono ?_;rintro e w3 ⟨rfl,rfl⟩;go_wp2_with fail;go_ret2
   exact⟨by rw[HQ.out]; rfl,HB2.out⟩
  ·have HQ:Hid (YfE T=(Ydw T,0)):=Zh (by rw[HX.out]; unfold limB; rw[e0,if_neg h4]);have l1:decide ((40000:Int)<((T.wr none).length:Int))=false:=Zf;clear h4 e0;go_wp2_with fail;refine HL.out.mono ?_;rintro e w3 ⟨rfl,rfl⟩;go_wp2_with fail;refine HS.out.mono ?_;rintro e w4 ⟨rfl,hb4⟩;have HB4:Hid (Below w.heap.size w w4):=Zh (HB2.out.trans (hb4.mono HB1.out.size));clear hb4;go_wp2_with fail;go_ret2
   exact⟨by rw[HQ.out]; rfl,HB4.out⟩
 ·have HX:Hid (YfE T=(⟨#[]⟩,Yy 8 T)):=Zh (by unfold YfE; rw[if_neg hf]);have e1:(Yy 8 T==0)=false:=by simpa using hf
  have e2:(Yy 8 T != 0)=true:=by simpa using hf
  generalize Yy 8 T=R at*;clear hf hT hsm hbig;go_enter Tryz.func201,Tryz.ntmps201;go_wp2_with fail;refine hC.mono ?_;rintro e w1 ⟨rfl,hb1⟩;clear hC;go_wp2_with fail;go_ret2
  exact⟨by rw[HX.out]; rfl,hb1⟩
theorem YqG (T:Ts)(v:Value)(w:World)(hT:TsV w (fun _=>True) v T)(hok:T.ok)(hlen:(Ydw T).size<=40000):
 Calls Tryz.prog 201 #[v] w fun e w'=>e= .returned (.tuple #[.string (Ydw T),.int .i64 0])/\Below w.heap.size w w':=by
 have h:=Yps T v w hT (by have:=hok.nodes; omega) (Ybt 8 T hok.right);have e:YfE T=(Ydw T,0):=by unfold YfE limB; rw[if_pos (Ts.ok_form hok),if_neg Zo]
 rw[e] at h;exact h
section
open Go.RowKit Go.Shelf
attribute [local go_sem] Oper.semAt_some
def yV (l:Nat):Value:=.func (.yield l) #[] #[]
def Yi0 (x:ByteArray):Array Value:=#[.string x]
def Yrg (l:Nat)(J:List ByteArray->(Nat->Prop)->World->Prop)(B0:Nat)(all:List ByteArray):Prop:=
 ∀pre x r F W1,all=pre++x::r->B0<=W1.heap.size->(∀k,F k->k<W1.heap.size)->J pre F W1->
  YieldAt Fence.wide 4 Tryz.prog l (Yi0 x) W1 fun e W'=>e= .returned (.bool true)/\∃F',J (pre++[x]) F' W'/\Grow F F' W1 W'
def YcY (T:Ts):Prop:=
 ∀(lb l B0:Nat) (v:Value) (J:List ByteArray->(Nat->Prop)->World->Prop) (F:Nat->Prop) (W:World) (all pre post:List ByteArray),all=pre++(T.wordsB++post)->T.ok->B0<=W.heap.size->(∀s F,Stab B0 F (J s F))->Yrg l J B0 all->
  (∀k,F k->k<W.heap.size)->lb<W.heap.size->¬F lb->W.cell? ⟨lb,0,none⟩=some v->TsV W (fun k=>k<W.heap.size/\¬F k) v T->J pre F W->
  Calls Tryz.prog 198 #[yV l,.pointer (some ⟨lb,0,none⟩)] W fun e W'=>(∃v,e= .returned v)/\∃F',J (pre++T.wordsB) F' W'/\Grow F F' W W'
theorem YcY.seq {T:Ts}(h:YcY T)(hok:T.ok){lb:Nat}{v:Value}{F0:Nat->Prop}{w:World}(hlb:lb<w.heap.size)(hF:¬F0 lb)(hc:w.cell? ⟨lb,0,none⟩=some v)(hT:TsV w (fun k=>k<w.heap.size/\¬F0 k) v T):
 SeqT Tryz.prog 198 #[.pointer (some ⟨lb,0,none⟩)] Yi0 T.wordsB F0 w:=by
 intro l J F W hb hFF hJ hY h0 hlt;refine h lb l W.heap.size v J F W T.wordsB [] [] Zs hok (Nat.le_refl _) hJ (fun pre x r F1 W1=>hY pre x r F1 W1) hlt (Nat.lt_of_lt_of_le hlb hb.size) (fun q=>hF (hFF _ q)) ((hb.cell (p:=⟨lb,0,none⟩) hlb).trans hc) ?_ h0;exact hT.keep (fun k q _=>hb.block k q.1) (fun k q _=>⟨Nat.lt_of_lt_of_le q.1 hb.size,fun e=>q.2 (hFF _ e)⟩)
theorem Yhx (ao:Option Addr)(n cap:Nat)(w:World):
 Calls Tryz.prog 148 #[.slice ao n cap] w fun e w'=>e= .returned (.func (.func 198) #[] #[.pointer (some ⟨w.heap.size,0,none⟩)])/\w'=w.alloc (.cells #[.slice ao n cap] 35):=by
 go_enter Tryz.func148,Tryz.ntmps148;go_wp2;go_ret;exact⟨rfl,rfl⟩
def ardV (q:Nat):Value:=.func (.func 229) #[] #[.pointer (some ⟨q,0,none⟩),.pointer (some ⟨q+3,0,none⟩),.pointer (some ⟨q+1,0,none⟩),.pointer (some ⟨q+2,0,none⟩)]
structure ArBox (q:Nat)(o en:ByteArray)(d:Bool)(v:Value)(w:World):Prop where
 b0:w.heap[q]? =some (.cells #[.string o] 9 (0,0))
 b1:w.heap[q+1]? =some (.cells #[v] 35 (0,0))
 b2:w.heap[q+2]? =some (.cells #[.string en] 9 (0,0))
 b3:w.heap[q+3]? =some (.cells #[.bool d] 4 (0,0))
theorem YpV (w:World)(a b c d:Array Value)(ta tb tc td:TypeId):
 ((((w.alloc (.cells a ta)).alloc (.cells b tb)).alloc (.cells c tc)).alloc (.cells d td)).heap[w.heap.size]? =some (.cells a ta (0,0))/\
 ((((w.alloc (.cells a ta)).alloc (.cells b tb)).alloc (.cells c tc)).alloc (.cells d td)).heap[w.heap.size+1]? =some (.cells b tb (0,0))/\
 ((((w.alloc (.cells a ta)).alloc (.cells b tb)).alloc (.cells c tc)).alloc (.cells d td)).heap[w.heap.size+2]? =some (.cells c tc (0,0))/\
 ((((w.alloc (.cells a ta)).alloc (.cells b tb)).alloc (.cells c tc)).alloc (.cells d td)).heap[w.heap.size+3]? =some (.cells d td (0,0))/\
 Below w.heap.size w ((((w.alloc (.cells a ta)).alloc (.cells b tb)).alloc (.cells c tc)).alloc (.cells d td))/\
 ((((w.alloc (.cells a ta)).alloc (.cells b tb)).alloc (.cells c tc)).alloc (.cells d td)).heap.size=w.heap.size+4:=by
 have h0:=heap_alloc_new w (.cells a ta);have g0:=below_alloc1 w (.cells a ta);have z0:(w.alloc (.cells a ta)).heap.size=w.heap.size+1:=Zs;generalize w.alloc (.cells a ta)=W1 at h0 g0 z0⊢;have h1:=heap_alloc_new W1 (.cells b tb);have g1:=below_alloc1 W1 (.cells b tb);have z1:(W1.alloc (.cells b tb)).heap.size=w.heap.size+2:=by simp[z0]
 generalize W1.alloc (.cells b tb)=W2 at h1 g1 z1⊢;have h2:=heap_alloc_new W2 (.cells c tc);have g2:=below_alloc1 W2 (.cells c tc);have z2:(W2.alloc (.cells c tc)).heap.size=w.heap.size+3:=by simp[z1]
 generalize W2.alloc (.cells c tc)=W3 at h2 g2 z2⊢;have h3:=heap_alloc_new W3 (.cells d td);have g3:=below_alloc1 W3 (.cells d td);have z3:(W3.alloc (.cells d td)).heap.size=w.heap.size+4:=by simp[z2]
 generalize W3.alloc (.cells d td)=W4 at h3 g3 z3⊢;rw[z0] at h1;rw[z1] at h2;rw[z2] at h3;exact⟨(g3.block _ Zo).trans ((g2.block _ Zo).trans ((g1.block _ Zo).trans h0)),(g3.block _ Zo).trans ((g2.block _ Zo).trans h1),(g3.block _ Zo).trans h2,h3,
  g0.trans ((g1.mono Zo).trans ((g2.mono Zo).trans (g3.mono Zo))),z3⟩
theorem YgD (o en:ByteArray)(d:Bool)(ao:Option Addr)(n cap:Nat)(w:World):
 Calls Tryz.prog 200 #[.string o,.slice ao n cap,.string en,.bool d] w fun e w'=>e= .returned (ardV w.heap.size)/\ArBox w.heap.size o en d (.slice ao n cap) w'/\Below w.heap.size w w'/\w'.heap.size=w.heap.size+4:=by
 obtain⟨h0,h1,h2,h3,hb,hz⟩:=YpV w #[.string o] #[.slice ao n cap] #[.string en] #[.bool d] 9 35 9 4;have H:=Zh (And.intro h0 (And.intro h1 (And.intro h2 (And.intro h3 (And.intro hb hz)))));clear h0 h1 h2 h3 hb hz;go_enter Tryz.func200,Tryz.ntmps200;go_wp2;go_ret;obtain⟨h0,h1,h2,h3,hb,hz⟩:=H.out;exact⟨rfl,⟨h0,h1,h2,h3⟩,hb,hz⟩
structure ArI (l:Nat)(J:List ByteArray->(Nat->Prop)->World->Prop)(pre:List ByteArray)(o:ByteArray)(d:Bool)(F0:Nat->Prop)(W0:World)(q:List ByteArray)(F2:Nat->Prop)(X:World):Prop where
 ex:∃F,J (pre++(YH o d q).out) F X/\Grow F0 F W0 X/\(∀k,F2 k↔F k\/k=W0.heap.size+2\/k=W0.heap.size+3)/\(∀k,F k->k<W0.heap.size\/W0.heap.size+7<=k)
 b0:X.heap[W0.heap.size]? =some (.cells #[yV l] 48 (0,0))
 b1:X.heap[W0.heap.size+1]? =some (.cells #[.bool false] 4 (0,0))
 b2:X.heap[W0.heap.size+2]? =some (.cells #[.string (YH o d q).last] 9 (0,0))
 b3:X.heap[W0.heap.size+3]? =some (.cells #[.bool (YH o d q).joined] 4 (0,0))
section
variable {l B0:Nat}{J:List ByteArray->(Nat->Prop)->World->Prop}{pre:List ByteArray}{o x:ByteArray}{d:Bool}{F0 F2:Nat->Prop}{W0 X Y:World}{q:List ByteArray}
theorem ArI.stab (hJ:∀s F,Stab B0 F (J s F))(hB:B0<=W0.heap.size):Stab (W0.heap.size+5) F2 (ArI l J pre o d F0 W0 q F2):=by
 rintro X Y ⟨⟨F,h1,h2,h3,h4⟩,b0,b1,b2,b3⟩ hK;have hb:∀{k:Nat} {ob:Obj},k<W0.heap.size+5->X.heap[k]? =some ob->Y.heap[k]? =some ob:=fun hk h=>(hK.block _ (Zg h).1 (fun e=>by omega)).trans h;exact⟨⟨F,hJ _ F X Y h1 (hK.mono fun i _ e=>⟨by omega,fun f=>e.2 ((h3 i).2 (.inl f))⟩),h2.then hK (fun i hi e=>by omega),h3,h4⟩,hb Zo b0,hb Zo b1,hb Zo b2,hb Zo b3⟩
theorem Ymu {W:World}{g:Nat}{old:Value}{t:TypeId}(h:W.heap[g]? =some (.cells #[old] t (0,0)))(new:Value):(W.setCell ⟨g,0,none⟩ new).heap[g]? =some (.cells #[new] t (0,0)):=by
 have:=heap_setCell_same W g 0 _ _ new h;simpa using this
theorem ArI.joined (hJ:∀s F,Stab B0 F (J s F))(hB:B0<=W0.heap.size)(h:ArI l J pre o d F0 W0 q F2 X)(hj:(YH o d q).joined=true)(hX:∀k,F2 k->k<X.heap.size):
 let Y:=(X.setCell ⟨W0.heap.size+2,0,none⟩ (.string ((YH o d q).last++x))).setCell ⟨W0.heap.size+3,0,none⟩ (.bool false)
 ArI l J pre o d F0 W0 (q++[x]) F2 Y/\Grow F2 F2 X Y:=by
 obtain⟨⟨F,h1,h2,h3,h4⟩,b0,b1,b2,b3⟩:=h;intro Y;have K1:=Keep.of_setCell X ⟨W0.heap.size+2,0,none⟩ (.string ((YH o d q).last++x));have K2:=Keep.of_setCell (X.setCell ⟨W0.heap.size+2,0,none⟩ (.string ((YH o d q).last++x))) ⟨W0.heap.size+3,0,none⟩ (.bool false);have K:Keep (fun k=>k=W0.heap.size+2\/k=W0.heap.size+3) X Y:=(K1.mono (fun _ _ e=>.inl e)).trans K2 (fun _ _ e=>.inr e);obtain⟨a1,a2,a3⟩:=YlH (x:=x) hj;have hlt:=(Zg b3).1;have n2:∀{k:Nat},k=W0.heap.size+2\/k=W0.heap.size+3->¬F k:=fun e f=>by have:=h4 _ f; omega
 refine⟨⟨⟨F,?_,h2.then K (fun i hi e=>by omega),h3,h4⟩,?_,?_,?_,?_⟩,⟨K.mono (fun k _ e=>(h3 k).2 (.inr e)),fun _ e=>.inl e,fun k e=>Nat.lt_of_lt_of_le (hX k e) K.size⟩⟩
 ·rw[a1]; exact hJ _ F X Y h1 (K.mono fun i _ e=>⟨by omega,n2 e⟩)
 ·exact(K.block _ Zo Zo).trans b0
 ·exact(K.block _ Zo Zo).trans b1
 ·rw[a2]; exact(K2.block _ (by simp[World.setCell]; omega) (by show ¬W0.heap.size+2=W0.heap.size+3; omega)).trans (Ymu b2 _)
 ·rw[a3];exact Ymu ((K1.block _ hlt (by show ¬W0.heap.size+3=W0.heap.size+2; omega)).trans b3) _
theorem ArI.emit (hJ:∀s F,Stab B0 F (J s F))(hB:B0<=W0.heap.size)(b0:X.heap[W0.heap.size]? =some (.cells #[yV l] 48 (0,0)))(b1:X.heap[W0.heap.size+1]? =some (.cells #[.bool false] 4 (0,0)))
 (b2:X.heap[W0.heap.size+2]? =some (.cells #[.string (YH o d q).last] 9 (0,0)))(b3:X.heap[W0.heap.size+3]? =some (.cells #[.bool (YH o d q).joined] 4 (0,0))){F F':Nat->Prop}(h2:Grow F0 F W0 X)(h3:∀k,F2 k↔F k\/k=W0.heap.size+2\/k=W0.heap.size+3)(h4:∀k,F k->k<W0.heap.size\/W0.heap.size+7<=k)
 (hz:W0.heap.size+7<=X.heap.size)(hj:(YH o d q).joined=false)(hJ':J (pre++(YH o d q).out++[(YH o d q).last]) F' Y)(hG:Grow F F' X Y):
 ∃F2',ArI l J pre o d F0 W0 (q++[x]) F2' (Y.setCell ⟨W0.heap.size+2,0,none⟩ (.string x))/\Grow F2 F2' X (Y.setCell ⟨W0.heap.size+2,0,none⟩ (.string x)):=by
 have K:=Keep.of_setCell Y ⟨W0.heap.size+2,0,none⟩ (.string x);obtain⟨a1,a2,a3⟩:=YkO (x:=x) hj;have h4':∀k,F' k->k<W0.heap.size\/W0.heap.size+7<=k:=fun k e=>(hG.sub k e).elim (h4 k) (fun e=>.inr Zo);have nF:∀{k:Nat},W0.heap.size<=k->k<W0.heap.size+7->¬F k:=fun h1 h2 f=>by have:=h4 _ f; omega
 have hzY:=hG.keep.size;have c0:=(hG.keep.block _ Zo (nF (Nat.le_refl _) Zo)).trans b0;have c1:=(hG.keep.block _ Zo (nF Zo Zo)).trans b1;have c2:=(hG.keep.block _ Zo (nF Zo Zo)).trans b2;have c3:=(hG.keep.block _ Zo (nF Zo Zo)).trans b3;refine⟨fun k=>F' k\/k=W0.heap.size+2\/k=W0.heap.size+3,⟨⟨F',?_,(h2.trans hG).then K (fun i hi e=>by have e:i=W0.heap.size+2:=e; omega),fun k=>Iff.rfl,h4'⟩,?_,?_,?_,?_⟩,⟨?_,?_,?_⟩⟩
 ·rw[a1,<-List.append_assoc]; exact hJ _ F' Y _ hJ' (K.mono fun i _ e=>by have e:i=W0.heap.size+2:=e; exact⟨by omega,fun f=>by have:=h4' _ f; omega⟩)
 ·exact(K.block _ Zo (by show ¬W0.heap.size=W0.heap.size+2; omega)).trans c0
 ·exact(K.block _ Zo (by show ¬W0.heap.size+1=W0.heap.size+2; omega)).trans c1
 ·rw[a2]; exact Ymu c2 _
 ·rw[a3,<-hj]; exact(K.block _ Zo (by show ¬W0.heap.size+3=W0.heap.size+2; omega)).trans c3
 ·exact(hG.keep.mono (fun k _ e=>(h3 k).2 (.inl e))).trans K (fun i _ e=>(h3 i).2 (.inr (.inl e)))
 ·rintro k (e | e)
  ·exact(hG.sub k e).imp (fun f=>(h3 k).2 (.inl f)) id
  ·exact .inl ((h3 k).2 (.inr e))
 ·rintro k (e | e)
  ·exact Nat.lt_of_lt_of_le (hG.lt k e) K.size
  ·have:=K.size; omega
end
end
section
open Go.RowKit Go.Shelf
attribute [local go_sem] Oper.semAt_some
theorem Yrc (w:World)(a b c d e:Array Value)(ta tb tc td te:TypeId)(W:World)(hW:W=((((w.alloc (.cells a ta)).alloc (.cells b tb)).alloc (.cells c tc)).alloc (.cells d td)).alloc (.cells e te)):
 W.heap[w.heap.size]? =some (.cells a ta (0,0))/\W.heap[w.heap.size+1]? =some (.cells b tb (0,0))/\W.heap[w.heap.size+2]? =some (.cells c tc (0,0))/\W.heap[w.heap.size+3]? =some (.cells d td (0,0))/\W.heap[w.heap.size+4]? =some (.cells e te (0,0))/\
 Below w.heap.size w W/\W.heap.size=w.heap.size+5:=by
 obtain⟨h0,h1,h2,h3,hb,hz⟩:=YpV w a b c d ta tb tc td;rw[hW];clear hW;generalize(((w.alloc (.cells a ta)).alloc (.cells b tb)).alloc (.cells c tc)).alloc (.cells d td)=V at h0 h1 h2 h3 hb hz⊢;have h4:=heap_alloc_new V (.cells e te);have g4:=below_alloc1 V (.cells e te);rw[hz] at h4;exact⟨(g4.block _ Zo).trans h0,(g4.block _ Zo).trans h1,(g4.block _ Zo).trans h2,(g4.block _ Zo).trans h3,h4,hb.trans (g4.mono Zo),by simp[hz]⟩
def ArQ (J:List ByteArray->(Nat->Prop)->World->Prop)(s:List ByteArray)(F:Nat->Prop)(W:World)(e:Ending)(W':World):Prop:=e= .returned (.bool true)/\∃F',J s F' W'/\Grow F F' W W'
theorem YoZ {R:Ending->World->Prop}{tmps:Array Value}{W':World}{D z:Nat}(t6:tmps[6]? =some (.pointer (some ⟨z,0,none⟩)))(hc:W'.heap[z]? =some (.cells #[.bool true] 4 (0,0)))(hD:W'.heap[D]? =some (.deferred (some [])))(hne:z≠D)
 (hQ:R (.returned (.bool true)) (W'.putObj D (.deferred none))):LeavesInM Fence.wide 6 Tryz.prog Tryz.f229 tmps R [{ target:=.collected D,args:=#[] }] .returning W':=by
 have h2:(W'.putObj D (.deferred none)).heap[z]? =some (.cells #[.bool true] 4 (0,0)):=(World.putObj_heap_other Zo).trans hc;have hcc:(W'.putObj D (.deferred none)).cell? ⟨z,0,none⟩=some (.bool true):=by simp[World.cell?,h2]
 have hr:(results Tryz.f229 tmps).run Tryz.prog (W'.putObj D (.deferred none))= .ok (.bool true) (W'.putObj D (.deferred none)):=by
  simp[results,Tryz.f229,go_sem,t6,hcc]
 exact⟨by simp,.inl ⟨D,_,rfl,run_takeDeferred hD,⟨_,hr,hQ⟩⟩⟩
theorem YgE (T:Ts)(hWA:YcY T)(hok:T.ok)(p0 p1 p2 p3 l B0:Nat)(o en:ByteArray)(d:Bool)(v:Value)(J:List ByteArray->(Nat->Prop)->World->Prop)(F:Nat->Prop)(W:World)(all pre post:List ByteArray)
 (hall:all=pre++(JR en o d T.wordsB++post))(hB:B0<=W.heap.size)(hJ:∀s F,Stab B0 F (J s F))(hY:Yrg l J B0 all)(hF:∀k,F k->k<W.heap.size)(c0:W.cell? ⟨p0,0,none⟩=some (.string o))(c1:W.cell? ⟨p1,0,none⟩=some v)(c2:W.cell? ⟨p2,0,none⟩=some (.string en))(c3:W.cell? ⟨p3,0,none⟩=some (.bool d))(hq:¬F p2)
 (hT:TsV W (fun k=>k<W.heap.size/\¬F k) v T)(h0:J pre F W)(hen:en.size<=10000000)(ho:o.size<=10000000):
 Calls Tryz.prog 229 #[yV l,.pointer (some ⟨p0,0,none⟩),.pointer (some ⟨p3,0,none⟩),.pointer (some ⟨p1,0,none⟩),.pointer (some ⟨p2,0,none⟩)] W (ArQ J (pre++JR en o d T.wordsB) F W):=by
 obtain⟨ao,cap,rfl⟩:=hT.form;have C2:=Zh c2;have hq0:p0<W.heap.size:=World.block_lt_of_cell? W _ c0;have hq1:p1<W.heap.size:=World.block_lt_of_cell? W _ c1;have hq2:p2<W.heap.size:=World.block_lt_of_cell? W _ c2;have hq3:p3<W.heap.size:=World.block_lt_of_cell? W _ c3;have hr1:p3<W.heap.size+1:=Zo;have hr2:p3<W.heap.size+1+1:=Zo;have hs1:p1<W.heap.size+1:=Zo;have hs2:p1<W.heap.size+1+1:=Zo;have hs3:p1<W.heap.size+1+1+1:=Zo;have HY:Hid _:=hY;have HJ:Hid _:=hJ;have HF:Hid _:=hF;have HQ:Hid _:=hq;have HT:=Zh hT;have H0:=Zh h0;have HALL:=Zh hall;have HL:=Zh (YiW hok);have HWA:Hid _:=hWA;clear hY hJ hF hq hT h0 hall c2 hWA;have hFn:∀f,Fence.wide.fn f:=fun _=>trivial;unfold yV at*;refine callsIn_wide.1 (callsIn_of_wp_marks (n:=6) Tryz.func229 rfl trivial ?_);simp only[Tryz.ntmps229,List.size_toArray,List.length_cons,List.length_nil,Nat.reduceAdd,Nat.reduceSub,Array.replicate_succ,Array.replicate_zero,List.push_toArray,List.append_toArray,List.nil_append,List.cons_append];gi_wp2_with fail
 refine(callsIn_wide.2 (Yhx _ _ _ _)).mono ?_;rintro e w2 ⟨rfl,rfl⟩;gi_wp2_with fail
 obtain⟨W5,hW5⟩:∃W5,W5=((((W.alloc (.cells #[.func (.yield l) #[] #[]] 48)).alloc (.cells #[.bool false] 4)).alloc (.cells #[.string o] 9)).alloc (.cells #[.bool d] 4)).alloc (.cells #[.slice ao T.len cap] 35):=⟨_,rfl⟩;obtain⟨n0,n1,n2,n3,n4,hb5,hz5⟩:=Yrc W _ _ _ _ _ _ _ _ _ _ W5 hW5;rw[<-hW5];clear hW5;have hcl:W5.cell? ⟨W.heap.size+4,0,none⟩=some (.slice ao T.len cap):=by simp[World.cell?,n4]
 have hT5:TsV W5 (fun k=>k<W5.heap.size/\¬(F k\/k=W.heap.size+2\/k=W.heap.size+3)) (.slice ao T.len cap) T:=HT.out.keep (fun k q _=>hb5.block k q.1) (fun k q hk=>⟨by omega,fun e=>by rcases e with e | e | e<;>first | exact q.2 e | omega⟩);have hF4:¬(F (W.heap.size+4)\/W.heap.size+4=W.heap.size+2\/W.heap.size+4=W.heap.size+3):=fun e=>by rcases e with e | e | e<;>first | (have:=HF.out _ e; omega) | omega
 have hsq:=YcY.seq (F0:=fun k=>F k\/k=W.heap.size+2\/k=W.heap.size+3) HWA.out hok (lb:=W.heap.size+4) Zo hF4 hcl hT5;have hI0:ArI l J pre o d F W [] (fun k=>F k\/k=W.heap.size+2\/k=W.heap.size+3) W5:=⟨⟨F,by
  rw[Yn9,List.append_nil]; exact HJ.out _ F W W5 H0.out (Keep.of_below hb5),⟨Keep.of_below hb5,fun _ e=>.inl e,fun k e=>by have:=HF.out _ e; omega⟩,fun k=>Iff.rfl,fun k e=>.inl (HF.out _ e)⟩,n0,n1,n2,n3⟩
 have hF5:∀k,(F k\/k=W.heap.size+2\/k=W.heap.size+3)->k<W5.heap.size:=fun k e=>by rcases e with e | e | e<;>first | (have:=HF.out _ e; omega) | omega
 have hst:∀(s:List ByteArray) (F2:Nat->Prop),Stab W5.heap.size F2 (ArI l J pre o d F W s F2):=fun s F2=>by rw[hz5]; exact ArI.stab HJ.out hB
 have HSQ:Hid _:=hsq;have HI0:Hid _:=hI0;have HF5:Hid _:=hF5;have HST:Hid _:=hst;have HZ5:=Zh hz5;clear n0 n1 n2 n3 n4 hcl hT5 hF4 hsq hI0 hF5 hst c0 c1 c3 hb5 hz5;refine wpIn_wide.2 ?_;refine Yhw (gf:=198) (lb:=#[.pointer (some ⟨W.heap.size+4,0,none⟩)]) rfl (enters_of Tryz.func198 (by kernel_rfl) rfl) HSQ.out (fun _=>rfl) (ArI l J pre o d F W) HF5.out HST.out HI0.out
  (fun x=>{ tmps:=#[.func (.yield l) #[] #[],.pointer (some ⟨p0,0,none⟩),.pointer (some ⟨p3,0,none⟩),.pointer (some ⟨p1,0,none⟩),.pointer (some ⟨p2,0,none⟩),.pointer (some ⟨W.heap.size,0,none⟩),.pointer (some ⟨W.heap.size+1,0,none⟩),.pointer (some ⟨W.heap.size+1+1,0,none⟩),.pointer (some ⟨W.heap.size+1+1+1,0,none⟩),.string x,.string o,.bool d,.slice ao T.len cap,.func (.func 198) #[] #[.pointer (some ⟨W.heap.size+1+1+1+1,0,none⟩)],.string x,undef,undef,undef,undef,undef,undef,undef,undef,undef,undef,undef,undef,undef,undef],defers:=[] })
  ?assign ?body ?done
 case assign=>
  intro l2 x X K hK;have hFn:∀f,(Fence.wide.inRound l2).fn f:=fun _=>trivial;unfold Yi0;gi_wp2
  simpa using hK
 case body=>
  intro l2 q x r F2 X hxs hXz hF2 hI;have hX7:W.heap.size+7<=X.heap.size:=by have:=HZ5.out; omega
  have v0:X.cell? ⟨W.heap.size,0,none⟩=some (.func (.yield l) #[] #[]):=by have:=hI.b0; unfold yV at this; simp[World.cell?,this]
  have v2:X.cell? ⟨W.heap.size+1+1,0,none⟩=some (.string (YH o d q).last):=by simp[World.cell?,hI.b2]
  have v3:X.cell? ⟨W.heap.size+1+1+1,0,none⟩=some (.bool (YH o d q).joined):=by simp[World.cell?,hI.b3]
  have f2:X.frozen? ⟨W.heap.size+1+1,0,none⟩=false:=by simp[World.frozen?,hI.b2]
  have f3:X.frozen? ⟨W.heap.size+1+1+1,0,none⟩=false:=by simp[World.frozen?,hI.b3]
  have hqs:∀y∈q,y.size<=10000000:=fun y hy=>HL.out y (by rw[hxs]; simp[hy]);have hxz:x.size<=10000000:=HL.out x (by rw[hxs]; simp);have hls:=(YgG (d:=d) ho q hqs).1;have hFn:∀f,(Fence.wide.inRound l2).fn f:=fun _=>trivial;cases hj:(YH o d q).joined with
  |
   true=>
   have HN:=Zh (ArI.joined (x:=x) HJ.out hB hI hj hF2);rw[hj] at v3;clear hj hI hqs;generalize(YH o d q).last=L at*;gi_wp2
   exact⟨F2,HN.out.1,HN.out.2⟩
  |
   false=>
   obtain⟨F',h1,h2,h3,h4⟩:=hI.ex;obtain⟨z,hz⟩:=Yn8 en o d (q++[x]) r;have ha:all=(pre++(YH o d q).out)++(YH o d q).last::(z++post):=by
    rw[HALL.out,hxs,show q++x::r=q++[x]++r by simp,hz,(YkO (x:=x) hj).1]; simp
   obtain⟨fn,tm,as',bd,hy,hRd⟩:=HY.out _ _ _ F' X ha Zo (fun k e=>hF2 k ((h3 k).2 (.inl e))) h1;simp only[Yi0] at hy;have HRd:=Zh hRd;have HE:=Zh (fun(Fn:Nat->Prop) (Y:World) (hJ':J (pre++(YH o d q).out++[(YH o d q).last]) Fn Y) (hG:Grow F' Fn X Y)=>ArI.emit (x:=x) HJ.out hB hI.b0 hI.b1 hI.b2 hI.b3 h2 h3 h4 hX7 hj hJ' hG);have HNF:Hid (∀k,W.heap.size<=k->k<W.heap.size+7->¬F' k):=Zh (fun k e1 e2 f=>by have:=h4 k f; omega);have HB2:=Zh hI.b2;rw[hj] at v3;clear hRd hj hI hqs h1 h2 h3 h4 hz ha;generalize(YH o d q).last=L at*;generalize(YH o d q).out=O at*;gi_wp2
   refine(YoJ l2 HRd.out).mono ?_;rintro e Y ⟨rfl,Fn,hJ',hG⟩;have hc2:=(hG.keep.block _ Zo (HNF.out _ Zo Zo)).trans HB2.out;have u2:Y.cell? ⟨W.heap.size+1+1,0,none⟩=some (.string L):=by simp[World.cell?,hc2]
   have g2:Y.frozen? ⟨W.heap.size+1+1,0,none⟩=false:=by simp[World.frozen?,hc2]
   have HN:=Zh (HE.out Fn Y hJ' hG);clear hJ' hG hc2 HE HRd v0 v2 v3 f2 f3;gi_wp2
   exact HN.out
 case done=>
  intro F2 X hI hG hD hXz hne;have hX7:W.heap.size+7<=X.heap.size:=by have:=HZ5.out; omega
  have v0:X.cell? ⟨W.heap.size,0,none⟩=some (.func (.yield l) #[] #[]):=by have:=hI.b0; unfold yV at this; simp[World.cell?,this]
  have v2:X.cell? ⟨W.heap.size+1+1,0,none⟩=some (.string (YH o d T.wordsB).last):=by simp[World.cell?,hI.b2]
  have hls:=(YgG (d:=d) ho T.wordsB HL.out).1;obtain⟨F',h1,h2,h3,h4⟩:=hI.ex;have ve:X.cell? ⟨p2,0,none⟩=some (.string en):=(h2.keep.cell (p:=⟨p2,0,none⟩) hq2 HQ.out).trans C2.out;have ha:all=(pre++(YH o d T.wordsB).out)++((YH o d T.wordsB).last++en)::post:=by
   rw[HALL.out]; unfold JR; simp
  have hF'X:∀k,F' k->k<X.heap.size:=h2.lt;obtain⟨fn,tm,as',bd,hy,hRd⟩:=HY.out _ _ _ F' X ha Zo hF'X h1;simp only[Yi0] at hy;have HRd:=Zh hRd;have HH2:=Zh h2;have HB1:=Zh hI.b1;have hz5:=HZ5.out;rw[hz5] at hD hne⊢;have HD:=Zh hD;have HNF:Hid (∀k,W.heap.size<=k->k<W.heap.size+7->¬F' k):=Zh (fun k e1 e2 f=>by have:=h4 k f; omega);clear hRd hI h1 h2 h3 h4 ha hF'X hG hD hne;have HAR:Hid (pre++JR en o d T.wordsB=pre++(YH o d T.wordsB).out++[(YH o d T.wordsB).last++en]):=Zh (by unfold JR; simp);generalize(YH o d T.wordsB).last=L at*;generalize(YH o d T.wordsB).out=O at*;dsimp only;gi_wp2_with fail
  refine(Ycj HRd.out).mono ?_;rintro e Y ⟨rfl,Fn,hJ',hG⟩;have hc1:=(hG.keep.block _ Zo (HNF.out _ Zo Zo)).trans HB1.out;have hcD:=(hG.keep.block _ Zo (HNF.out _ Zo Zo)).trans HD.out;have u1:Y.cell? ⟨W.heap.size+1,0,none⟩=some (.bool false):=by simp[World.cell?,hc1]
  have g1:Y.frozen? ⟨W.heap.size+1,0,none⟩=false:=by simp[World.frozen?,hc1]
  have K1:=Keep.of_setCell Y ⟨W.heap.size+1,0,none⟩ (.bool true);have hb1:=Ymu hc1 (.bool true);have hbD:=(K1.block _ (Zg hcD).1 (by show ¬W.heap.size+5=W.heap.size+1; omega)).trans hcD;have hFn9:∀k,Fn k->k<W.heap.size\/W.heap.size+7<=k:=fun k e=>by
   rcases hG.sub k e with e | e
   ·by_cases hk:k<W.heap.size
    ·exact .inl hk
    ·by_cases hk2:k<W.heap.size+7
     ·exact absurd e (HNF.out k Zo hk2)
     ·exact .inr Zo
   ·exact .inr Zo
  have K2:=Jk (Y.setCell ⟨W.heap.size+1,0,none⟩ (.bool true)) (W.heap.size+5) (.deferred none);have hfin:ArQ J (pre++JR en o d T.wordsB) F W (.returned (.bool true)) ((Y.setCell ⟨W.heap.size+1,0,none⟩ (.bool true)).putObj (W.heap.size+5) (.deferred none)):=by
   refine⟨rfl,Fn,?_,((HH2.out.trans hG).then K1 (fun i hi e=>by have e:i=W.heap.size+1:=e; omega)).then K2 (fun i hi e=>by have e:i=W.heap.size+5:=e; omega)⟩;rw[HAR.out];refine HJ.out _ Fn _ _ (HJ.out _ Fn _ _ hJ' (K1.mono fun i _ e=>?_)) (K2.mono fun i _ e=>?_)
   ·have e:i=W.heap.size+1:=e;exact⟨by omega,fun f=>by have:=hFn9 _ f; omega⟩
   ·have e:i=W.heap.size+5:=e;exact⟨by omega,fun f=>by have:=hFn9 _ f; omega⟩
  have HFI:=Zh hfin;have HB9:=Zh hb1;have HD9:=Zh hbD;clear hfin hb1 hbD K1 K2 hJ' hG hc1 hcD hFn9 HRd HH2 HAR HALL v0 v2 ve;gi_wp2
  exact YoZ rfl HB9.out HD9.out Zo HFI.out
end
section
open Go.RowKit Go.Shelf
attribute [local go_sem] Oper.semAt_some
theorem Ts.take_at {w:World}{S:Nat->Prop}:∀(n:Nat) (l:Ts) (b off:Nat),l.at w S b off->(l.takeN n).at w S b off
 |0,l,_,_,_=>by cases l<;>exact trivial
 |n+1,.nil,_,_,_=>trivial
 |n+1,.cons k t kids rest,b,off,⟨h0,h1,h2,h3⟩=>⟨h0,h1,h2,Ts.take_at n rest b (off+3) h3⟩
theorem Ts.drop_at {w:World}{S:Nat->Prop}:∀(n:Nat) (l:Ts) (b off:Nat),l.at w S b off->(l.dropN n).at w S b (off+n*3)
 |0,l,b,off,h=>by simpa[Ts.dropN] using h
 |n+1,.nil,_,_,_=>trivial
 |
  n+1,.cons k t kids rest,b,off,⟨h0,h1,h2,h3⟩=>by
  have:=Ts.drop_at n rest b (off+3) h3;rw[show off+(n+1)*3=off+3+n*3 by omega];exact this
theorem TsV.part {w w':World}{S:Nat->Prop}{g off cap N:Nat}{R:Ts}(hS:S g)(hat:R.at w S g off)(hN:N<=R.len)(hc:N<=cap)(hk:∀k,S k->k<w.heap.size->w'.heap[k]? =w.heap[k]?):TsV w' (fun _=>True) (.slice (some ⟨g,off,none⟩) N cap) (R.takeN N):=by
 have hl:=Ts.take_len N R hN;refine⟨some ⟨g,off,none⟩,cap,by rw[hl],fun _=>⟨g,off,rfl,trivial,Ts.at_keep _ g off (.inl hS) (Ts.take_at N R g off hat) hk (fun _ _ _=>trivial),by rw[hl]; exact hc⟩⟩
theorem Ym7 (a k N:Nat)(x:Int)(hx:x=(k:Int)+(N:Int))(h:a - (k+N)<a - k):a - (intOf (Value.int .i64 x)).toNat<a - (intOf (Value.int .i64 (k:Int))).toNat:=by
 have e1:(intOf (Value.int .i64 x)).toNat=k+N:=by rw[hx]; simp only[intOf]; omega
 have e2:(intOf (Value.int .i64 (k:Int))).toNat=k:=by simp only[intOf]; omega
 rw[e1,e2];exact h
theorem Yhv (x:Int)(h0:0<=x)(h1:x<=1000000000000):wrap64 x=x:=by
 unfold wrap64;omega
structure WdS (T:Ts)(ao:Option Addr)(cap lb:Nat)(J:List ByteArray->(Nat->Prop)->World->Prop)(pre:List ByteArray)(F:Nat->Prop)(W wr:World)(k:Nat)(rest:Ts)(done:List ByteArray)(F1:Nat->Prop):Prop where
 len:k+rest.len=T.len
 tail:rest≠.nil->∃g o,ao=some ⟨g,o,none⟩/\g<wr.heap.size/\¬F1 g/\rest.at wr (fun k=>k<wr.heap.size/\¬F1 k) g (o+k*3)/\T.len<=cap
 words:done++rest.wordsB=T.wordsB
 nodes:rest.nodes<=T.nodes
 ok:rest.ok
 j:J (pre++done) F1 wr
 grow:Grow F F1 W wr
 cell:wr.cell? ⟨lb,0,none⟩=some (.slice ao T.len cap)
 nlb:¬F1 lb
section
variable {T rest:Ts}{g o cap lb:Nat}{J:List ByteArray->(Nat->Prop)->World->Prop}{pre:List ByteArray}{F F1 F2:Nat->Prop}{W wr w2:World}{k:Nat}{done out:List ByteArray}
theorem WdS.next (h:WdS T (some ⟨g,o,none⟩) cap lb J pre F W wr k rest done F1)(hne:rest≠.nil)(n:Nat)(hn:n<=rest.len)(hout:rest.wordsB=out++(rest.dropN n).wordsB)(hj:J (pre++done++out) F2 w2)(hG:Grow F1 F2 wr w2):
 WdS T (some ⟨g,o,none⟩) cap lb J pre F W w2 (k+n) (rest.dropN n) (done++out) F2:=by
 obtain⟨h1,h2,h3,h4,h5,h6,h7,h8,h9⟩:=h;obtain⟨g',o',e,hg,hF1,hat,hcap⟩:=h2 hne;cases e;have hlb:=World.block_lt_of_cell? wr _ h8;have hnew:∀k,(k<wr.heap.size/\¬F1 k)->(k<w2.heap.size/\¬F2 k):=fun k q=>⟨Nat.lt_of_lt_of_le q.1 hG.keep.size,fun e=>(hG.sub k e).elim q.2 (fun e=>by omega)⟩;refine⟨by have:=Ts.drop_len n rest hn; omega,fun _=>⟨g,o,rfl,(hnew g ⟨hg,hF1⟩).1,(hnew g ⟨hg,hF1⟩).2,?_,hcap⟩,?_,Nat.le_trans (Ts.drop_nodes n rest) h4,h5.drop n,?_,h7.trans hG,(hG.keep.cell (p:=⟨lb,0,none⟩) hlb h9).trans h8,(hnew lb ⟨hlb,h9⟩).2⟩
 ·have:=Ts.drop_at n rest g (o+k*3) hat;rw[show o+(k+n)*3=o+k*3+n*3 by omega];exact Ts.at_keep _ g _ (.inl ⟨hg,hF1⟩) this (fun i q _=>hG.keep.block i q.1 q.2) (fun i q _=>hnew i q)
 ·rw[<-h3,hout,List.append_assoc]
 ·rw[<-List.append_assoc]; exact hj
end
def WdQ (J:List ByteArray->(Nat->Prop)->World->Prop)(s:List ByteArray)(F:Nat->Prop)(W:World)(e:Ending)(W':World):Prop:=(∃v,e= .returned v)/\∃F',J s F' W'/\Grow F F' W W'
theorem YlQ:∀(m:Nat) (T:Ts),T.nodes<m->YcY T:=by
 intro m;induction m with
 |zero=>intro T hm; omega
 |
  succ m ih=>
  intro T hm lb l B0 v J F W all pre post hall hok hB hJ hY hF hlb hnl hc hT h0;show Calls Tryz.prog 198 #[yV l,.pointer (some ⟨lb,0,none⟩)] W (WdQ J (pre++T.wordsB) F W);obtain⟨ao,cap,rfl,htail⟩:=hT;have IH:Hid _:=ih;have HY:Hid _:=hY;have HJ:Hid _:=hJ;have HALL:=Zh hall;have hTl:=Ts.len_le T;have hT4:=hok.nodes;have hS0:Hid (WdS T ao cap lb J pre F W W 0 T [] F):=Zh ⟨Nat.zero_add _,fun hn=>by obtain⟨g,o,e,h1,h2,h3⟩:=htail hn; exact⟨g,o,e,h1.1,h1.2,by simpa using h2,h3⟩,rfl,Nat.le_refl _,hok,by simpa using h0,Grow.refl hF,hc,hnl⟩;have hFn:∀f,Fence.wide.fn f:=fun _=>trivial;unfold yV;clear ih hY hJ hall htail h0 hc hnl hF;go_enter Tryz.func198,Tryz.ntmps198;go_wp2;go_loopw [3] (fun i wr=>∃(k:Nat) (rest:Ts) (done:List ByteArray) (F1:Nat->Prop),i= .int .i64 k/\Hid (WdS T ao cap lb J pre F W wr k rest done F1)) (fun i _=>T.len - (intOf i).toNat)
  case atStart=>exact⟨0,T,[],F,rfl,hS0⟩
  case round=>
   obtain⟨k,rest,done,F1,rfl,HS⟩:=hrel;clear hS0;have lc:=HS.out.cell;have hWz:=HS.out.grow.keep.size;have hlw:lb<wr.heap.size:=Zo;by_cases hn:rest= .nil
   ·have hk:k=T.len:=by have:=HS.out.len; rw[hn] at this; simpa[Ts.len] using this
    have HD:Hid (done=T.wordsB):=Zh (by have:=HS.out.words; rw[hn] at this; simpa[Ts.wordsB,Ts.words] using this);have l0:decide ((k:Int)<(T.len:Int))=false:=Zf;have l1:decide (k<T.len)=false:=Zf;clear hk hn;go_wp2;go_end0
    exact⟨⟨_,rfl⟩,F1,by rw[<-HD.out]; exact HS.out.j,HS.out.grow⟩
   ·obtain⟨g,o,rfl,hgw,hFg,hat,hcap⟩:=HS.out.tail hn;have hkl:=HS.out.len;have hrl:rest.len≠0:=fun q=>hn ((Ts.len_zero rest).1 q);have l0:decide ((k:Int)<(T.len:Int))=true:=Zt;have l1:decide (k<T.len)=true:=Zt;have hkp:k<T.len:=Zo;have hck:¬cap=k:=Zo;have hkT:k<=T.len:=Zo;have hTR:TsV wr (fun k=>k<wr.heap.size/\¬F1 k) (.slice (some ⟨g,o+k*3,none⟩) rest.len (cap - k)) rest:=⟨_,_,rfl,fun _=>⟨g,o+k*3,rfl,⟨hgw,hFg⟩,hat,by omega⟩⟩;have HAT:=Zh hat;have HTR:=Zh hTR;have HN:=Zh hn;have HKL:=Zh hkl;clear hat hTR hn hkl hrl;refine(wpIn_wide (n:=5)).1 ?_;gi_wp2_with fail
    rw[show T.len - k=rest.len by have:=HKL.out; omega];refine(callsIn_wide.2 (YoI (fun k=>k<wr.heap.size/\¬F1 k) rest _ wr HTR.out (by have:=Ts.len_le rest; have:=HS.out.nodes; omega))).mono ?_;rintro e w' ⟨rfl,hw'⟩;obtain rfl:wr=w':=hw'.symm;cases rest with
    |nil=>exact absurd rfl HN.out
    |
     cons kk tt kids rest=>
     obtain⟨c0,c1,⟨ao2,cap2,c2,hkids⟩,hrest⟩:=HAT.out;have hcnt:=HS.out.nodes;simp only[Ts.nodes] at hcnt;have HKI:=Zh hkids;have HRE:=Zh hrest;have hrun:=Ts.run_le (.cons kk tt kids rest);obtain⟨N,HPN⟩:∃N,Hid (N=(Ts.cons kk tt kids rest).part):=⟨_,Zh rfl⟩;have hNle:N<=(Ts.cons kk tt kids rest).len:=by rw[HPN.out]; unfold Ts.part; simp only[Ts.len] at hrun⊢; omega
     have hN1:1<=N:=by rw[HPN.out]; unfold Ts.part; omega
     have hkl9:=HKL.out;have hNc:N<=cap - k:=by clear hrun; omega
     have hkN:T.len - (k+N)<T.len - k:=by clear hrun; omega
     have hmx:max ((Ts.cons kk tt kids rest).run:Int) 1=(N:Int):=by rw[HPN.out]; unfold Ts.part; omega
     have q1:(0:Int)<=(k:Int)+(N:Int):=Zo;have q2:(k:Int)+(N:Int)<=(cap:Int):=Zo;have q3:((k:Int)+(N:Int)).toNat=k+N:=Zo;have q4:k<=k+N:=Zo;have q5:wrap64 ((k:Int)+(N:Int))=(k:Int)+(N:Int):=Yhv _ Zo Zo;have HNL:=Zh hNle;have HQ:=Zh (And.intro hmx (And.intro q1 (And.intro q2 (And.intro q3 (And.intro q4 q5)))));clear hmx q1 q2 q3 q4 q5;generalize(Ts.cons kk tt kids rest).run=R at HQ;clear hkids hrest hrun hkl9 hNle;obtain⟨V0,hV0⟩:∃V0,V0=wr.alloc (.cells #[.int .i64 kk,.string tt,.slice ao2 kids.len cap2] 223):=⟨_,rfl⟩;have hT0:V0.heap[wr.heap.size]? =some (.cells #[.int .i64 kk,.string tt,.slice ao2 kids.len cap2] 223 (0,0)):=by rw[hV0]; exact heap_alloc_new _ _
     have hbV:Below wr.heap.size wr V0:=by rw[hV0]; exact below_alloc1 _ _
     have HZV:=Zh (show V0.heap.size=wr.heap.size+1 by rw[hV0]; simp);have HV0:=Zh hV0;have HBV:=Zh hbV;have HT0:=Zh hT0;have HFL:=Zh HS.out.grow.lt;have hok9:=HS.out.ok;clear hV0 hbV hT0;by_cases hk4:kk=4
     ·subst hk4;have HOKK:=Zh (Ts.ok.kids hok9);have HN1:Hid (N=1):=Zh (by rw[HPN.out]; unfold Ts.part; simp[Ts.run]);have hkn:kids.nodes<m:=Zo;have HWA:=Zh (IH.out kids hkn);clear hok9;obtain⟨hmx,q1,q2,q3,q4,q5⟩:=HQ.out;gi_wp2_with fail
      clear hmx q1 q2 q3 q4 q5;rw[<-HV0.out];refine(callsIn_wide.2 (YgD ⟨#[40]⟩ ⟨#[41]⟩ true ao2 kids.len cap2 V0)).mono ?_;rintro e w2 ⟨rfl,hbx,hb2,hz2⟩;have hzv:=HZV.out;have hb9:Below wr.heap.size wr w2:=HBV.out.trans (hb2.mono Zo);obtain⟨x0,x1,x2,x3⟩:=hbx;have hJ2:J (pre++done) F1 w2:=HJ.out _ F1 wr w2 HS.out.j (Keep.of_below hb9);have hkv:TsV w2 (fun k=>k<w2.heap.size/\¬F1 k) (.slice ao2 kids.len cap2) kids:=TsV.keep (w:=wr) (S:=fun k=>k<wr.heap.size/\¬F1 k) ⟨ao2,cap2,rfl,HKI.out⟩ (fun i q _=>hb9.block i q.1) (fun i q _=>⟨by omega,q.2⟩);have ha:all=(pre++done)++(JR ⟨#[41]⟩ ⟨#[40]⟩ true kids.wordsB++(rest.wordsB++post)):=by
       have h1:=HALL.out;rw[<-HS.out.words,Yfg] at h1;rw[h1]; simp
      have hAR:=YgE kids HWA.out HOKK.out V0.heap.size (V0.heap.size+1) (V0.heap.size+2) (V0.heap.size+3) l B0 ⟨#[40]⟩ ⟨#[41]⟩ true (.slice ao2 kids.len cap2) J F1 w2 all (pre++done) (rest.wordsB++post) ha Zo HJ.out HY.out (fun k e=>by have:=HFL.out k e; omega)
       (by simp[World.cell?,x0]) (by simp[World.cell?,x1]) (by simp[World.cell?,x2]) (by simp[World.cell?,x3]) (fun e=>by have:=HFL.out _ e; omega) hkv hJ2 Zd Zd
      have HAR:=Zh hAR;have HB9:=Zh hb9;clear hAR ha hJ2 hb9 hb2 hkv x0 x1 x2 x3 hzv;unfold ardV;unfold yV at HAR;gi_wp2_with fail
      refine(callsIn_wide.2 HAR.out).mono ?_;rintro e w3 ⟨rfl,F2,hJ3,hG3⟩;have HN9:=Zh (HS.out.next (F2:=F2) (w2:=w3) HN.out N HNL.out (out:=JR ⟨#[41]⟩ ⟨#[40]⟩ true kids.wordsB) (by rw[HN1.out,Yfg]; rfl) hJ3 (Grow.after (Keep.of_below HB9.out) hG3));clear hJ3 hG3 HAR;gi_wp2_with fail
      go_roundw
      case rel=>exact⟨k+N,_,_,F2,congrArg (Value.int .i64) (HQ.out.2.2.2.2.2.trans Zo),HN9⟩
      case measure=>exact Ym7 _ _ _ _ HQ.out.2.2.2.2.2 hkN
     by_cases hk8:kk=8
     ·subst hk8;have HOKK:=Zh (Ts.ok.kids hok9);have HN1:Hid (N=1):=Zh (by rw[HPN.out]; unfold Ts.part; simp[Ts.run]);have hkn:kids.nodes<m:=Zo;have HWA:=Zh (IH.out kids hkn);have hts:=J9 (Ts.ok.one hok9).1;have p9:tt.size<=1000000:=Zo;obtain⟨O8,HO8⟩:∃O8:ByteArray,Hid (O8=(⟨#[60]⟩:ByteArray)++tt):=⟨_,Zh rfl⟩;have HO8z:Hid (O8.size<=10000000):=Zh (by rw[HO8.out,ByteArray.size_append]; show 1+_<=_; omega);clear hok9 hts;obtain⟨hmx,q1,q2,q3,q4,q5⟩:=HQ.out;gi_wp2_with fail
      clear hmx q1 q2 q3 q4 q5;rw[<-HV0.out,<-HO8.out];refine(callsIn_wide.2 (YgD O8 ⟨#[62]⟩ false ao2 kids.len cap2 V0)).mono ?_;rintro e w2 ⟨rfl,hbx,hb2,hz2⟩;have hzv:=HZV.out;have hb9:Below wr.heap.size wr w2:=HBV.out.trans (hb2.mono Zo);obtain⟨x0,x1,x2,x3⟩:=hbx;have hJ2:J (pre++done) F1 w2:=HJ.out _ F1 wr w2 HS.out.j (Keep.of_below hb9);have hkv:TsV w2 (fun k=>k<w2.heap.size/\¬F1 k) (.slice ao2 kids.len cap2) kids:=TsV.keep (w:=wr) (S:=fun k=>k<wr.heap.size/\¬F1 k) ⟨ao2,cap2,rfl,HKI.out⟩ (fun i q _=>hb9.block i q.1) (fun i q _=>⟨by omega,q.2⟩);have ha:all=(pre++done)++(JR ⟨#[62]⟩ O8 false kids.wordsB++(rest.wordsB++post)):=by
       have h1:=HALL.out;rw[<-HS.out.words,Ygw,<-HO8.out] at h1;rw[h1]; simp
      have hAR:=YgE kids HWA.out HOKK.out V0.heap.size (V0.heap.size+1) (V0.heap.size+2) (V0.heap.size+3) l B0 O8 ⟨#[62]⟩ false (.slice ao2 kids.len cap2) J F1 w2 all (pre++done) (rest.wordsB++post) ha Zo HJ.out HY.out (fun k e=>by have:=HFL.out k e; omega)
       (by simp[World.cell?,x0]) (by simp[World.cell?,x1]) (by simp[World.cell?,x2]) (by simp[World.cell?,x3]) (fun e=>by have:=HFL.out _ e; omega) hkv hJ2 Zd HO8z.out
      have HAR:=Zh hAR;have HB9:=Zh hb9;clear hAR ha hJ2 hb9 hb2 hkv x0 x1 x2 x3 hzv;unfold ardV;unfold yV at HAR;gi_wp2_with fail
      refine(callsIn_wide.2 HAR.out).mono ?_;rintro e w3 ⟨rfl,F2,hJ3,hG3⟩;have HN9:=Zh (HS.out.next (F2:=F2) (w2:=w3) HN.out N HNL.out (out:=JR ⟨#[62]⟩ O8 false kids.wordsB) (by rw[HN1.out,Ygw,<-HO8.out]; rfl) hJ3 (Grow.after (Keep.of_below HB9.out) hG3));clear hJ3 hG3 HAR;gi_wp2_with fail
      go_roundw
      case rel=>exact⟨k+N,_,_,F2,congrArg (Value.int .i64) (HQ.out.2.2.2.2.2.trans Zo),HN9⟩
      case measure=>exact Ym7 _ _ _ _ HQ.out.2.2.2.2.2 hkN
     have b4:(kk==4)=false:=by simpa using hk4
     have b8:(kk==8)=false:=by simpa using hk8
     have HTL:=Zh (YoQ hk4 hk8 hok9);have HPW:=Zh (Ylm (t:=tt) (kids:=kids) (rest:=rest) hk4 hk8);have HOKN:=Zh (hok9.take N);have hTP:TsV V0 (fun _=>True) (.slice (some ⟨g,o+k*3,none⟩) N (cap - k)) ((Ts.cons kk tt kids rest).takeN N):=TsV.part (w:=wr) (S:=fun k=>k<wr.heap.size/\¬F1 k) ⟨hgw,hFg⟩ HAT.out HNL.out hNc (fun i q _=>HBV.out.block i q.1);rw[<-HPN.out] at HTL HPW;have HTX:=Zh (YqG _ _ V0 hTP HOKN.out HTL.out);obtain⟨s,HSS⟩:∃s,Hid (s=Ydw ((Ts.cons kk tt kids rest).takeN N)):=⟨_,Zh rfl⟩;rw[<-HSS.out] at HTX HPW;clear hk4 hk8 hTP hok9;obtain⟨hmx,q1,q2,q3,q4,q5⟩:=HQ.out;gi_wp2_with fail
     clear hmx q1 q2 q3 q4 q5;rw[<-HV0.out];refine(callsIn_wide.2 HTX.out).mono ?_;rintro e w2 ⟨rfl,hb2⟩;have hb9:Below wr.heap.size wr w2:=HBV.out.trans (hb2.mono (by have:=HZV.out; omega));have hJ2:J (pre++done) F1 w2:=HJ.out _ F1 wr w2 HS.out.j (Keep.of_below hb9);have ha:all=(pre++done)++s::(((Ts.cons kk tt kids rest).dropN N).wordsB++post):=by
      have h1:=HALL.out;rw[<-HS.out.words,HPW.out] at h1;rw[h1]; simp
     obtain⟨fn,tm,as',bd,hy,hRd⟩:=HY.out (pre++done) s _ F1 w2 ha (by have:=hb9.size; omega) (fun k e=>Nat.lt_of_lt_of_le (HFL.out k e) hb9.size) hJ2;simp only[Yi0] at hy;have HRd:=Zh hRd;have HB9:=Zh hb9;clear hRd ha hJ2 hb9 hb2 HTX;gi_wp2
     refine(Ycj HRd.out).mono ?_;rintro e w3 ⟨rfl,F2,hJ3,hG3⟩;have HN9:=Zh (HS.out.next (F2:=F2) (w2:=w3) HN.out N HNL.out (out:=[s]) (by rw[HPW.out]; rfl) hJ3 (Grow.after (Keep.of_below HB9.out) hG3));clear hJ3 hG3 HRd;gi_wp2_with fail
     go_roundw
     case rel=>exact⟨k+N,_,_,F2,congrArg (Value.int .i64) (HQ.out.2.2.2.2.2.trans Zo),HN9⟩
     case measure=>exact Ym7 _ _ _ _ HQ.out.2.2.2.2.2 hkN
end
section
open Go.RowKit Go.Shelf
attribute [local go_sem] Oper.semAt_some
theorem Yoh (T:Ts):YcY T:=YlQ (T.nodes+1) T Zo
theorem Yep:SlTy Tryz.prog 23 9 1 16:=YdA (z:=.string ⟨#[]⟩) Tryz.underlying23 (by kernel_rfl) rfl Zd
theorem YgJ {F:Fence}{n0:Nat}{P:Program}{w:World}{ops:Array Oper}{rest:List Oper}{o:Oper}{a:Act}{Q:Exit->Act->World->Prop}
 (hgd:o.guard=none)(s x:Operand)(t:TypeId)(ho:o.op= .call { callee:=.builtin .append,args:=#[s,x],argTypes:=#[t,t] })(B:Nat)(e:TypeId)(size bytes:Nat)(hT:SlTy P t e size bytes)
 (v:Value)(n:Nat)(xs:List Value)(hs:a.eval s=v)(hown:w.ownsRow B e size v n xs)(ad:Addr)(m c:Nat)(news:List Value)(hx:a.eval x= .slice (some ad) m c)(hl:news.length=m*size)(hnews:∀j u,news[j]? =some u->w.cell? (ad.add j)=some u)
 (h1:∀u∈news,u.oneCell'=true)(h63:n+m<=maxLen)(hbytes:(n+m)*bytes<=140737488355328)(hbase:B<=w.heap.size)
 (h:∀v' w',w'.ownsRow B e size v' (n+m) (xs++news)->w.grownBy w' v.ownBlock->(v'.ownBlock=v.ownBlock\/v'.ownBlock=some w.heap.size)->wpListIn F n0 P ops Q rest (a.put o.dst v') w'):wpListIn F n0 P ops Q (o::rest) a w:=by
 obtain⟨i,z,ht,hi,hz,rfl,rfl,hzs,h0⟩:=hT;refine wpListIn_plain hgd fun K hK'=>?_;obtain⟨v',w',hr,h2,h3,_,h5⟩:=run_append_own_at (P:=P) w B t o.type e i z _ _ ht hi hz rfl rfl hzs h0 v n xs hown ad m c news hl hnews h1 h63 hbytes hbase;unfold Oper.wpIn;refine⟨?_,?_⟩
 ·simp[Oper.about,ho,resolve,Target.leads,Sem.run_pure]
 ·rw[Oper.semAt_plain F _ _ (by rw[ho]; intro c hc'; cases hc')];simp[execOp,ho,resolve,invoke,builtin,hs,hx,hr,Result.andThen];exact hK' _ _ (h v' w' h2 h3 h5)
theorem YcJ {P:Program}{w:World}{ops:Array Oper}{rest:List Oper}{o:Oper}{a:Act}{Q:Exit->Act->World->Prop}(hgd:o.guard=none)(s x:Operand)(t:TypeId)
 (ho:o.op= .call { callee:=.builtin .append,args:=#[s,x],argTypes:=#[t,t] })(B:Nat)(e:TypeId)(size bytes:Nat)(hT:SlTy P t e size bytes)
 (v:Value)(n:Nat)(xs:List Value)(hs:a.eval s=v)(hown:w.ownsRow B e size v n xs)(ao:Option Addr)(m c:Nat)(news:List Value)(hx:a.eval x= .slice ao m c)(hl:news.length=m*size)(hne:m≠0->∃g o,ao=some ⟨g,o,none⟩/\∀j u,news[j]? =some u->w.cell? ⟨g,o+j,none⟩=some u)
 (h1:∀u∈news,u.oneCell'=true)(h63:n+m<=maxLen)(hbytes:(n+m)*bytes<=140737488355328)(hbase:B<=w.heap.size)
 (h:∀v' w',w'.ownsRow B e size v' (n+m) (xs++news)->w.grownBy w' v.ownBlock->(v'.ownBlock=v.ownBlock\/v'.ownBlock=some w.heap.size)->wpList P ops Q rest (a.put o.dst v') w'):wpList P ops Q (o::rest) a w:=
 wpList_plain hgd fun _ hK=>Yct s x t ho B e size bytes hT v n xs hs hown ao m c news hx hl hne h1 h63 hbytes hbase fun v' w' a b c=>hK _ _ (h v' w' a b c)
structure OutB (B ob:Nat)(ws:List ByteArray)(F:Nat->Prop)(W:World):Prop where
 ex:∃vo,W.heap[ob]? =some (.cells #[vo] 23 (0,0))/\W.ownsRow B 9 1 vo ws.length (ws.map Value.string)/\(∀k,F k↔k=ob\/vo.ownBlock=some k)/\vo.ownBlock≠some ob
section
variable {B B0 ob:Nat}{ws ys:List ByteArray}{F:Nat->Prop}{W V w1:World}{vo v':Value}
theorem OutB.stab:Stab B0 F (OutB B ob ws F):=by
 rintro X Y ⟨vo,h1,h2,h3,h4⟩ hK;exact⟨vo,(hK.block _ (Zg h1).1 (fun q=>q.2 ((h3 ob).2 (.inl rfl)))).trans h1,hK.owns h2 (fun k e q=>q.2 ((h3 k).2 (.inr e))),h3,h4⟩
theorem OutB.lt (h:OutB B ob ws F W):∀k,F k->k<W.heap.size:=by
 obtain⟨vo,h1,h2,h3,_⟩:=h;intro k hk;rcases(h3 k).1 hk with rfl | e
 ·exact(Zg h1).1
 ·exact(h2.lt k e).2
theorem OutB.pushed (h1:W.heap[ob]? =some (.cells #[vo] 23 (0,0)))(h3:∀k,F k↔k=ob\/vo.ownBlock=some k)(h4:vo.ownBlock≠some ob)(hrow:∀k,vo.ownBlock=some k->k<W.heap.size)(hV:Below W.heap.size W V)
 (ho:w1.ownsRow B 9 1 v' (ws.length+ys.length) (ws.map Value.string++ys.map Value.string))(hg:V.grownBy w1 vo.ownBlock)(hat:v'.ownBlock=vo.ownBlock\/v'.ownBlock=some V.heap.size):
 w1.heap[ob]? =some (.cells #[vo] 23 (0,0))/\∃F',OutB B ob (ws++ys) F' (w1.setCell ⟨ob,0,none⟩ v')/\Grow F F' W (w1.setCell ⟨ob,0,none⟩ v'):=by
 have hob:=(Zg h1).1;have hb1:w1.heap[ob]? =some (.cells #[vo] 23 (0,0)):=(hg.block ob (Nat.lt_of_lt_of_le hob hV.size) (fun e=>h4 e.symm)).trans ((hV.block ob hob).trans h1);have K:=Keep.of_setCell w1 ⟨ob,0,none⟩ v';have KG:Keep (fun k=>vo.ownBlock=some k) W w1:=(Keep.of_below hV).trans (Keep.of_grown hg) (fun _ _ e=>e);have hvz:=hV.size;have hgz:=hg.size;have hne:v'.ownBlock≠some ob:=fun e=>by
  rcases hat with a | a
  ·exact h4 (a.symm.trans e)
  ·rw[a] at e; cases e; omega
 refine⟨hb1,fun k=>k=ob\/v'.ownBlock=some k,⟨v',Ymu hb1 v',?_,fun k=>Iff.rfl,hne⟩,⟨?_,?_,?_⟩⟩
 ·have:=K.owns ho (fun k e q=>by have q:k=ob:=q; subst q; exact hne e);rw[List.length_append,List.map_append];exact this
 ·exact(KG.mono (fun k _ e=>(h3 k).2 (.inr e))).trans K (fun i _ e=>(h3 i).2 (.inl e))
 ·rintro k (e | e)
  ·exact .inl ((h3 k).2 (.inl e))
  ·rcases hat with a | a
   ·exact .inl ((h3 k).2 (.inr (a.symm.trans e)))
   ·rw[a] at e; cases e; exact .inr hvz
 ·have hs:=K.size;rintro k (e | e)
  ·subst e; omega
  ·have:=(ho.lt k e).2; omega
end
theorem YqQ (s:ByteArray):(!s.toList.isEmpty)=decide (s.size≠0):=by
 rw[Lib.toList_data];have e:s.data.toList.length=s.size:=Array.length_toList;cases h:s.data.toList with
 |nil=>
   have q:s.size=0:=by rw[<-e,h]; rfl
   simp[q]
 |cons a l=>
   have q:s.size≠0:=by rw[<-e,h]; simp
   simp[q]
theorem Ynd {R:Ending->World->Prop}{tmps:Array Value}{W':World}{D:Nat}(hD:W'.heap[D]? =some (.deferred (some [])))(hQ:R (.returned (.tuple #[])) (W'.putObj D (.deferred none))):
 LeavesInM Fence.wide 6 Tryz.prog Tryz.f147 tmps R [{ target:=.collected D,args:=#[] }] .returning W':=by
 have hr:(results Tryz.f147 tmps).run Tryz.prog (W'.putObj D (.deferred none))= .ok (.tuple #[]) (W'.putObj D (.deferred none)):=by
  simp[results,Tryz.f147,go_sem]
 exact⟨by simp,.inl ⟨D,_,rfl,run_takeDeferred hD,⟨_,hr,hQ⟩⟩⟩
def PutQ (B ob:Nat)(ws:List ByteArray)(F:Nat->Prop)(W:World)(e:Ending)(W':World):Prop:=e= .returned (.tuple #[])/\∃F',OutB B ob ws F' W'/\Grow F F' W W'
theorem put_any (T:Ts)(hok:T.ok)(B ob:Nat)(sign:ByteArray)(v:Value)(ws:List ByteArray)(F:Nat->Prop)(W:World)(hout:OutB B ob ws F W)(hB:B<=W.heap.size)(hT:TsV W (fun k=>k<W.heap.size/\¬F k) v T)(hlen:ws.length<=1000000000):
 Calls Tryz.prog 147 #[.string sign,v,.pointer (some ⟨ob,0,none⟩)] W (PutQ B ob (ws++(if sign.size=0 then [] else [sign])++T.wordsB) F W):=by
 obtain⟨ao,cap,rfl⟩:=hT.form;have hFn:∀f,Fence.wide.fn f:=fun _=>trivial;have hwc:=Ybl T;have hn4:=hok.nodes;have hwl:T.wordsB.length<=8000:=by unfold Ts.wordsB; rw[List.length_map]; omega
 refine callsIn_wide.1 (callsIn_of_wp_marks (n:=6) Tryz.func147 rfl trivial ?_);simp only[Tryz.ntmps147,List.size_toArray,List.length_cons,List.length_nil,Nat.reduceAdd,Nat.reduceSub,Array.replicate_succ,Array.replicate_zero,List.push_toArray,List.append_toArray,List.nil_append,List.cons_append];refine wpIn_wide.2 ?_;have HT:=Zh hT;have HOUT:=Zh hout;clear hT hout hn4 hwc;obtain⟨ws1,HWS1⟩:∃ws1,Hid (ws1=ws++(if sign.size=0 then [] else [sign])):=⟨_,Zh rfl⟩;have hlen1:ws1.length<=1000000001:=by rw[HWS1.out,List.length_append]; split<;>simp<;>omega
 rw[<-HWS1.out];go_upto_if 7 with(fail)
 go_cut [] from 6 to 11 (fun wx=>Hid (∃F1,OutB B ob ws1 F1 wx/\Grow F F1 W wx))
 case first=>
  have hsz:(!sign.toList.isEmpty)=decide (sign.size≠0):=YqQ sign;generalize(!sign.toList.isEmpty)=bb at hsz⊢;cases bb with
  |
   false=>
   have hsg:sign.size=0:=by simpa using hsz
   have HQ:Hid (∃F1,OutB B ob ws1 F1 W/\Grow F F1 W W):=Zh ⟨F,by rw[HWS1.out,if_pos hsg,List.append_nil]; exact HOUT.out,Grow.refl HOUT.out.lt⟩;clear hsg hsz;go_wp2;go_meet
   exact HQ
  |
   true=>
   have hsg:sign.size≠0:=by simpa using hsz
   clear hsz;have HWE:Hid (ws1=ws++[sign]):=Zh (by rw[HWS1.out,if_neg hsg]);obtain⟨vo,h1,h2,h3,h4⟩:=HOUT.out.ex;have b0:W.cell? ⟨ob,0,none⟩=some vo:=by simp[World.cell?,h1]
   have hobl:=(Zg h1).1;have hVb:=below_alloc1 W (.cells #[.string sign] 9);clear hsg;go_wp2_with (at_builtin; refine YcJ rfl _ _ 23 rfl B 9 1 16 Yep vo ws.length (ws.map Value.string) rfl ((Keep.of_below (S:=fun _=>False) hVb).owns h2 (fun _ _ q=>q)) (some ⟨W.heap.size,0,none⟩) 1 1 [.string sign] rfl rfl (fun _=>⟨W.heap.size,0,rfl,by have:=World.news_of_block (cs:=#[.string sign]) (t:=9) (fr:=(0,0)) (heap_alloc_new W (.cells #[.string sign] 9)); simpa using this⟩) (by simp[Value.oneCell']) (by unfold maxLen; omega) Zo (by simp; omega) ?_);intro v' w1 ho' hg' hat';obtain⟨hb1,F',hO,hG⟩:=OutB.pushed (ys:=[sign]) h1 h3 h4 (fun k e=>(h2.lt k e).2) hVb ho' hg' (by simpa using hat');have u0:w1.cell? ⟨ob,0,none⟩=some vo:=by simp[World.cell?,hb1]
   have g0:w1.frozen? ⟨ob,0,none⟩=false:=by simp[World.frozen?,hb1]
   obtain⟨ao',n',cap',rfl⟩:∃ao n cap,v'= .slice ao n cap:=by
    obtain⟨ao,cap,e,_⟩:=YZ ho';exact⟨ao,_,cap,e⟩
   have HQ:Hid (∃F1,OutB B ob ws1 F1 (w1.setCell ⟨ob,0,none⟩ (.slice ao' n' cap'))/\Grow F F1 W (w1.setCell ⟨ob,0,none⟩ (.slice ao' n' cap'))):=Zh ⟨F',by rw[HWE.out]; exact hO,hG⟩;clear hO hG ho' hg' hat' hb1 h2 h3 h4 hVb;go_wp2;go_meet
   exact HQ
 case rest=>
  obtain⟨F1,hO1,hG1⟩:=Hid.out hcut;have hFs:∀k,F1 k->k<wc.heap.size:=hO1.lt;have hTc:TsV wc (fun k=>k<wc.heap.size/\¬F1 k) (.slice ao T.len cap) T:=HT.out.keep (fun k q hk=>hG1.keep.block k hk q.2) (fun k q _=>⟨Nat.lt_of_lt_of_le q.1 hG1.keep.size,fun e=>(hG1.sub k e).elim q.2 (fun e=>by omega)⟩);have HO1:=Zh hO1;have HG1:=Zh hG1;have HTC:=Zh hTc;have HFS:=Zh hFs;have hzc:W.heap.size<=wc.heap.size:=hG1.keep.size;clear hO1 hG1 hTc hFs hcut;go_wp2_with fail;refine(Yhx _ _ _ _).mono ?_;rintro e w2 ⟨rfl,rfl⟩;go_wp2_with fail;obtain⟨V,hV⟩:∃V,V=wc.alloc (.cells #[.slice ao T.len cap] 35):=⟨_,rfl⟩;have hVn:V.heap[wc.heap.size]? =some (.cells #[.slice ao T.len cap] 35 (0,0)):=by rw[hV]; exact heap_alloc_new _ _
  have hVb:Below wc.heap.size wc V:=by rw[hV]; exact below_alloc1 _ _
  have hVz:V.heap.size=wc.heap.size+1:=by rw[hV]; simp
  rw[<-hV];clear hV;have hcl:V.cell? ⟨wc.heap.size,0,none⟩=some (.slice ao T.len cap):=by simp[World.cell?,hVn]
  have hTV:TsV V (fun k=>k<V.heap.size/\¬F1 k) (.slice ao T.len cap) T:=HTC.out.keep (fun k q _=>hVb.block k q.1) (fun k q _=>⟨by omega,q.2⟩);have HSQ:=Zh (YcY.seq (F0:=F1) (Yoh T) hok (lb:=wc.heap.size) Zo (fun e=>by have:=HFS.out _ e; omega) hcl hTV);have hI0:OutB B ob (ws1++[]) F1 V:=by rw[List.append_nil]; exact OutB.stab (B0:=0) _ _ HO1.out (Keep.of_below hVb)
  have HI0:=Zh hI0;have HVB:=Zh hVb;have HVZ:=Zh hVz;clear hcl hTV hVn hI0 hVb;refine Yhw (gf:=198) (lb:=#[.pointer (some ⟨wc.heap.size,0,none⟩)]) rfl (enters_of Tryz.func198 (by kernel_rfl) rfl) HSQ.out (fun _=>rfl) (fun q F2 X=>OutB B ob (ws1++q) F2 X) (fun k e=>by have:=HFS.out k e; have:=HVZ.out; omega) (fun q F2=>OutB.stab) HI0.out
   (fun x=>{ tmps:=#[.string sign,.slice ao T.len cap,.pointer (some ⟨ob,0,none⟩),undef,undef,.string x,u6,u7,u8,u9,u10,u11,.slice ao T.len cap,.func (.func 198) #[] #[.pointer (some ⟨wc.heap.size,0,none⟩)],.string x,undef,undef,undef,undef],defers:=[] })
   ?assign ?body ?done
  case assign=>
   intro l2 x X K hK;have hFn:∀f,(Fence.wide.inRound l2).fn f:=fun _=>trivial;unfold Yi0;gi_wp2
   simpa using hK
  case body=>
   intro l2 q x r F2 X hxs hXz hF2 hI;have hFn:∀f,(Fence.wide.inRound l2).fn f:=fun _=>trivial;have hql:q.length<=8000:=by have:=congrArg List.length hxs; rw[List.length_append] at this; omega
   obtain⟨vo,h1,h2,h3,h4⟩:=hI.ex;have b0:X.cell? ⟨ob,0,none⟩=some vo:=by simp[World.cell?,h1]
   have hobl:=(Zg h1).1;have hVb:=below_alloc1 X (.cells #[.string x] 9);have hl9:(ws1++q).length<=1000010000:=by rw[List.length_append]; omega
   have hBX:B<=X.heap.size:=by have:=HVZ.out; omega
   gi_wp2_with (gi_at_builtin; refine YgJ rfl _ _ 23 rfl B 9 1 16 Yep vo (ws1++q).length ((ws1++q).map Value.string) rfl ((Keep.of_below (S:=fun _=>False) hVb).owns h2 (fun _ _ q=>q)) ⟨X.heap.size,0,none⟩ 1 1 [.string x] rfl rfl (World.news_of_block (cs:=#[.string x]) (t:=9) (fr:=(0,0)) (heap_alloc_new X (.cells #[.string x] 9))) (by simp[Value.oneCell']) (by unfold maxLen; omega) Zo (by simp; omega) ?_)
   intro v' w1 ho' hg' hat';obtain⟨hb1,F',hO,hG⟩:=OutB.pushed (ws:=ws1++q) (ys:=[x]) h1 h3 h4 (fun k e=>(h2.lt k e).2) hVb (by simpa using ho') hg' (by simpa using hat');have u0:w1.cell? ⟨ob,0,none⟩=some vo:=by simp[World.cell?,hb1]
   have g0:w1.frozen? ⟨ob,0,none⟩=false:=by simp[World.frozen?,hb1]
   obtain⟨ao',n',cap',rfl⟩:∃ao n cap,v'= .slice ao n cap:=by
    obtain⟨ao,cap,e,_⟩:=YZ ho';exact⟨ao,_,cap,e⟩
   have HQ:Hid (∃F',OutB B ob (ws1++(q++[x])) F' (w1.setCell ⟨ob,0,none⟩ (.slice ao' n' cap'))/\Grow F2 F' X (w1.setCell ⟨ob,0,none⟩ (.slice ao' n' cap'))):=Zh ⟨F',by rw[<-List.append_assoc]; exact hO,hG⟩;clear hO hG ho' hg' hat' hb1 h1 h2 h3 h4 hVb;gi_wp2
   exact HQ.out
  case done=>
   intro F2 X hI hG hD hXz hne;have hDz:wc.heap.size<=V.heap.size:=by have:=HVZ.out; omega
   have hfin:PutQ B ob (ws1++T.wordsB) F W (.returned (.tuple #[])) (X.putObj V.heap.size (.deferred none)):=by
    have K:=Jk X V.heap.size (.deferred none);refine⟨rfl,F2,OutB.stab (B0:=V.heap.size) _ _ hI (K.mono fun i _ e=>?_),?_⟩
    ·have e:i=V.heap.size:=e;exact⟨by omega,fun f=>hne i f e⟩
    ·exact(HG1.out.trans (Grow.after (Keep.of_below HVB.out) hG)).then K (fun i hi e=>by have e:i=V.heap.size:=e; omega)
   have HF:=Zh hfin;have HD:=Zh hD;clear hfin hD hI hG hne;dsimp only;go_wp2;exact Ynd HD.out HF.out
end
section
open Go.RowKit Go.Shelf
def Ya6 (p:Ts×Ts):List ByteArray:=⟨#[44]⟩::(p.1.wordsB++⟨#[58]⟩::p.2.wordsB)
def headB (left:Ts)(tests:List (Ts×Ts))(right subject:Ts)(noBlock:Bool):List ByteArray:=
 left.wordsB++tests.flatMap Ya6++(if noBlock then ⟨#[61]⟩::right.wordsB else ⟨#[44]⟩::(subject.wordsB++[⟨#[58]⟩,⟨#[123]⟩]))
theorem YhH:∀tests:List (Ts×Ts),(tests.flatMap fun p=>[44]::(p.1.words++[58]::p.2.words)).map bA=tests.flatMap Ya6
 |[]=>rfl
 |p::l=>by rw[List.flatMap_cons,List.map_append,YhH l,List.flatMap_cons]; simp[Ya6,Ts.wordsB,bA]
theorem Yo7 (left:Ts)(tests:List (Ts×Ts))(right subject:Ts)(noBlock:Bool):(Yc5 left tests right subject noBlock).map bA=headB left tests right subject noBlock:=by
 unfold Yc5 headB;rw[List.map_append,List.map_append,YhH];cases noBlock<;>simp[Ts.wordsB,bA]
theorem Ya9 {T:Ts}(h:T.ok):T.wordsB.length<=8000:=by
 have:=Ybl T;have:=h.nodes;unfold Ts.wordsB; rw[List.length_map]; omega
def YcK (tests:List (Ts×Ts)):Prop:=∀p∈tests,p.1.ok/\p.2.ok
theorem YfW:∀tests:List (Ts×Ts),YcK tests->(tests.flatMap Ya6).length<=16002*tests.length
 |[],_=>by simp
 |
  p::l,h=>by
  have h1:=YfW l (fun q hq=>h q (by simp[hq]));have h2:=Ya9 (h p Zs).1;have h3:=Ya9 (h p Zs).2;rw[List.flatMap_cons,List.length_append];simp only[Ya6,List.length_cons,List.length_append];omega
structure HdS (w:World)(c:Array Value)(ws:List ByteArray)(F:Nat->Prop)(W:World):Prop where
 out:OutB w.heap.size (w.heap.size+1) ws F W
 below:Below w.heap.size w W
 low:∀k,F k->w.heap.size+1<=k
 box:W.heap[w.heap.size]? =some (.cells c 39 (0,0))
theorem HdS.step {w:World}{c:Array Value}{ws ws':List ByteArray}{F F':Nat->Prop}{W W':World}(h:HdS w c ws F W)(ho:OutB w.heap.size (w.heap.size+1) ws' F' W')(hG:Grow F F' W W'):HdS w c ws' F' W':=by
 have hz:=(Zg h.box).1;refine⟨ho,h.below.trans (hG.keep.below h.below.size (fun i hi e=>by have:=h.low i e; omega)),fun k e=>(hG.sub k e).elim (h.low k) (fun e=>by omega),(hG.keep.block _ hz (fun e=>by have:=h.low _ e; omega)).trans h.box⟩
theorem HdS.keep {w:World}{c:Array Value}{ws:List ByteArray}{F:Nat->Prop}{W W':World}(h:HdS w c ws F W)(hb:Below W.heap.size W W'):HdS w c ws F W':=by
 have hz:=(Zg h.box).1;exact⟨OutB.stab (B0:=0) _ _ h.out (Keep.of_below hb),h.below.trans (hb.mono h.below.size),h.low,(hb.block _ hz).trans h.box⟩
theorem HdS.put {w:World}{c:Array Value}{ws:List ByteArray}{F:Nat->Prop}{W:World}(h:HdS w c ws F W)(T:Ts)(hok:T.ok)(sign:ByteArray)(v:Value)(hT:TsV w (fun _=>True) v T)(hlen:ws.length<=1000000000):
 Calls Tryz.prog 147 #[.string sign,v,.pointer (some ⟨w.heap.size+1,0,none⟩)] W fun e W'=>e= .returned (.tuple #[])/\∃F',HdS w c (ws++(if sign.size=0 then [] else [sign])++T.wordsB) F' W'/\Grow F F' W W':=by
 have hTW:TsV W (fun k=>k<W.heap.size/\¬F k) v T:=hT.keep (fun k _ hk=>h.below.block k hk) (fun k _ hk=>⟨Nat.lt_of_lt_of_le hk h.below.size,fun e=>by have:=h.low k e; omega⟩);refine(put_any T hok w.heap.size (w.heap.size+1) sign v ws F W h.out h.below.size hTW hlen).mono ?_;rintro e W' ⟨h1,F',h2,h3⟩;exact⟨h1,F',h.step h2 h3,h3⟩
def YqK (w:World)(ws:List ByteArray)(e:Ending)(w':World):Prop:=(∃v,e= .returned v/\w'.ownsRow w.heap.size 9 1 v ws.length (ws.map Value.string))/\Below w.heap.size w w'
theorem Yo6 (left right subject:Ts)(tests:List (Ts×Ts))(v0 v1 v2 v3:Value)(a4:Option Addr)(n4 c4:Nat)(w:World)(h0:TsV w (fun _=>True) v0 left)(h1:Y3 w (fun _=>True) v1 tests)(h2:TsV w (fun _=>True) v2 right)(h3:TsV w (fun _=>True) v3 subject)
 (k0:left.ok)(k1:YcK tests)(k2:right.ok)(k3:subject.ok)(hl:tests.length<=10000):
 Calls Tryz.prog 109 #[.agg #[v0,v1,v2,v3,.slice a4 n4 c4]] w (YqK w (headB left tests right subject (n4==0))):=by
 obtain⟨a0,c0,rfl⟩:=h0.form;obtain⟨a1,c1,rfl,ht1⟩:=h1;obtain⟨a2,c2,rfl⟩:=h2.form;obtain⟨a3,c3,rfl⟩:=h3.form;have H0:=Zh h0;have H1:=Zh ht1;have H2:=Zh h2;have H3:=Zh h3;have K1:Hid _:=k1;have e0:=Ya9 k0;have e1:∀k,((tests.take k).flatMap Ya6).length<=160020000:=fun k=>by
  have:=YfW (tests.take k) (fun p hp=>k1 p (List.mem_of_mem_take hp));have:(tests.take k).length<=tests.length:=by rw[List.length_take]; omega
  omega
 have E1:Hid _:=e1;clear h0 ht1 h2 h3 e1 k1;go_enter Tryz.func109,Tryz.ntmps109;go_wp2_with fail;obtain⟨W0,hW0⟩:∃W0,W0=(w.alloc (.cells #[.slice a0 left.len c0,.slice a1 tests.length c1,.slice a2 right.len c2,.slice a3 subject.len c3,.slice a4 n4 c4] 39)).alloc (.cells #[.slice none 0 0] 23):=⟨_,rfl⟩;have hS0:HdS w #[.slice a0 left.len c0,.slice a1 tests.length c1,.slice a2 right.len c2,.slice a3 subject.len c3,.slice a4 n4 c4] [] (fun k=>k=w.heap.size+1) W0:=by
  have x0:=heap_alloc_new w (.cells #[.slice a0 left.len c0,.slice a1 tests.length c1,.slice a2 right.len c2,.slice a3 subject.len c3,.slice a4 n4 c4] 39);have y0:=below_alloc1 w (.cells #[.slice a0 left.len c0,.slice a1 tests.length c1,.slice a2 right.len c2,.slice a3 subject.len c3,.slice a4 n4 c4] 39);have z0:(w.alloc (.cells #[.slice a0 left.len c0,.slice a1 tests.length c1,.slice a2 right.len c2,.slice a3 subject.len c3,.slice a4 n4 c4] 39)).heap.size=w.heap.size+1:=Zs;generalize w.alloc (.cells #[.slice a0 left.len c0,.slice a1 tests.length c1,.slice a2 right.len c2,.slice a3 subject.len c3,.slice a4 n4 c4] 39)=W1 at x0 y0 z0 hW0;have x1:=heap_alloc_new W1 (.cells #[.slice none 0 0] 23);have y1:=below_alloc1 W1 (.cells #[.slice none 0 0] 23);rw[z0] at x1;subst hW0;refine⟨⟨.slice none 0 0,x1,World.ownsRow_nil _ _ _ _,fun k=>by simp[Value.ownBlock],by simp[Value.ownBlock]⟩,y0.trans (y1.mono Zo),fun k e=>by have e:k=w.heap.size+1:=e; omega,(y1.block _ Zo).trans x0⟩
 rw[<-hW0];clear hW0;have b0:W0.cell? ⟨w.heap.size,0,none⟩=some (.slice a0 left.len c0):=by simp[World.cell?,hS0.box]
 have HC:=Zh (hS0.put left k0 ⟨#[]⟩ _ H0.out Zs);clear hS0;go_wp2_with fail;refine HC.out.mono ?_;rintro e w1 ⟨rfl,F1,hS1,_⟩;obtain⟨c,HCC⟩:∃c:Array Value,Hid (c=#[.slice a0 left.len c0,.slice a1 tests.length c1,.slice a2 right.len c2,.slice a3 subject.len c3,.slice a4 n4 c4]):=⟨_,Zh rfl⟩;rw[<-HCC.out] at hS1;have hL0:(([]:List ByteArray)++(if (⟨#[]⟩:ByteArray).size=0 then [] else [⟨#[]⟩]))++left.wordsB=left.wordsB++(tests.take 0).flatMap Ya6:=by rw[if_pos (show(⟨#[]⟩:ByteArray).size=0 from rfl)]; simp
 rw[hL0] at hS1;have HS1:=Zh hS1;have b1:w1.cell? ⟨w.heap.size,1,none⟩=some (.slice a1 tests.length c1):=by have:=hS1.box; rw[HCC.out] at this; simp[World.cell?,this]
 clear hS1 HC b0 hL0;go_wp2_with fail;go_loopw [15] (fun i wr=>∃(k:Nat) (F:Nat->Prop),i= .int .i64 k/\k<=tests.length/\Hid (HdS w c (left.wordsB++(tests.take k).flatMap Ya6) F wr)) (fun i _=>tests.length - (intOf i).toNat)
 case atStart=>exact⟨0,F1,rfl,Nat.zero_le _,HS1⟩
 case round=>
  obtain⟨k,F,rfl,hk,HS⟩:=hrel;clear b1 HS1;have hle:=e0;have hE:=E1.out k;have hwz:=HS.out.below.size;by_cases hlt:k<tests.length
  ·have l0:decide ((k:Int)<(tests.length:Int))=true:=Zt;have l1:decide (k<tests.length)=true:=decide_eq_true hlt;obtain⟨g,o,rfl,_,hat⟩:=H1.out (fun q=>by rw[q] at hlt; simp at hlt);obtain⟨⟨v,hv,hV⟩,⟨u,hu,hU⟩⟩:=Yba tests g o k hat hlt;have hgl:=World.block_lt_of_cell? w _ hv;have hgw:g<wr.heap.size:=Nat.lt_of_lt_of_le hgl hwz;have d0:=(HS.out.below.cell (p:=⟨g,o+k*2,none⟩) hgl).trans hv;have d1:=(HS.out.below.cell (p:=⟨g,o+k*2+1,none⟩) hgl).trans hu;have HOK:=Zh (K1.out tests[k] (List.getElem_mem hlt));have HTK:Hid ((tests.take (k+1)).flatMap Ya6=(tests.take k).flatMap Ya6++Ya6 tests[k]):=Zh (by
    rw[List.take_succ_eq_append_getElem hlt,List.flatMap_append]; simp)
   generalize tests[k]=x at hV hU HOK HTK;obtain⟨va,vc,rfl⟩:=hV.form;obtain⟨ua,uc,rfl⟩:=hU.form;have HV:=Zh hV;have HU:=Zh hU;obtain⟨V0,hV0⟩:∃V0,V0=wr.alloc (.cells #[.slice va x.1.len vc,.slice ua x.2.len uc] 104):=⟨_,rfl⟩;have hn:V0.heap[wr.heap.size]? =some (.cells #[.slice va x.1.len vc,.slice ua x.2.len uc] 104 (0,0)):=by rw[hV0]; exact heap_alloc_new _ _
   have hb0:Below wr.heap.size wr V0:=by rw[hV0]; exact below_alloc1 _ _
   have hSV:=HS.out.keep hb0;have HV0:=Zh hV0;have hFl:=HS.out.out.lt;have HP1:=Zh (hSV.put x.1 HOK.out.1 ⟨#[44]⟩ _ hV (by rw[List.length_append]; omega));have HNT:=Zh (show ¬F wr.heap.size from fun e=>by have:=hFl _ e; omega);have HN:=Zh hn;have hx1:=Ya9 HOK.out.1;clear hV hU hv hu hat hn hb0 hSV hFl hV0;go_wp2_with fail;rw[<-HV0.out];refine HP1.out.mono ?_;rintro e w2 ⟨rfl,F2,hS2,hG2⟩;have hn2:=(hG2.keep.block _ (Zg HN.out).1 HNT.out).trans HN.out;have t1:w2.cell? ⟨wr.heap.size,1,none⟩=some (.slice ua x.2.len uc):=by simp[World.cell?,hn2]
   have HP2:=Zh (hS2.put x.2 HOK.out.2 ⟨#[58]⟩ _ HU.out (by simp only[List.length_append]; rw[if_neg Zd]; simp only[List.length_cons,List.length_nil]; omega));have htw:=(Zg hn2).1;clear hS2 hG2 hn2 HP1 d0 d1;go_wp2_with fail;refine HP2.out.mono ?_;rintro e w3 ⟨rfl,F3,hS3,_⟩;have HS3:Hid (HdS w c (left.wordsB++(tests.take (k+1)).flatMap Ya6) F3 w3):=Zh (by
    rw[HTK.out];rw[if_neg Zd,if_neg Zd] at hS3;have e:left.wordsB++(tests.take k).flatMap Ya6++[⟨#[44]⟩]++x.1.wordsB++[⟨#[58]⟩]++x.2.wordsB=left.wordsB++((tests.take k).flatMap Ya6++Ya6 x):=by simp[Ya6]
    rw[<-e];exact hS3)
   clear hS3 HP2 t1;go_wp2_with fail;go_roundw
   case rel=>exact⟨k+1,F3,by go_num,by omega,HS3⟩
   case measure=>simp[intOf]; omega
  ·obtain rfl:k=tests.length:=by omega
   have l0:decide ((tests.length:Int)<(tests.length:Int))=false:=Zf;have HSF:Hid (HdS w c (left.wordsB++tests.flatMap Ya6) F wr):=Zh (by have:=HS.out; rw[List.take_length] at this; exact this);rw[List.take_length] at hE;have hbx:=HSF.out.box;rw[HCC.out] at hbx;have b2:wr.cell? ⟨w.heap.size,2,none⟩=some (.slice a2 right.len c2):=by simp[World.cell?,hbx]
   have b3:wr.cell? ⟨w.heap.size,3,none⟩=some (.slice a3 subject.len c3):=by simp[World.cell?,hbx]
   have b4:wr.cell? ⟨w.heap.size,4,none⟩=some (.slice a4 n4 c4):=by simp[World.cell?,hbx]
   clear hbx HS hlt;by_cases hn4:n4=0
   ·have q0:((n4:Int)==0)=true:=by rw[beq_iff_eq]; omega
    have HH:Hid (headB left tests right subject (n4==0)=left.wordsB++tests.flatMap Ya6++⟨#[61]⟩::right.wordsB):=Zh (by unfold headB; rw[if_pos (by simpa using hn4)]);have HP:=Zh (HSF.out.put right k2 ⟨#[61]⟩ _ H2.out (by rw[List.length_append]; omega));clear hn4;go_wp2_with fail;refine HP.out.mono ?_;rintro e w2 ⟨rfl,F2,hS2,_⟩;rw[if_neg Zd] at hS2;obtain⟨vo,x1,x2,_,_⟩:=hS2.out.ex;have u0:w2.cell? ⟨w.heap.size+1,0,none⟩=some vo:=by simp[World.cell?,x1]
    have HQ:Hid (YqK w (headB left tests right subject (n4==0)) (.returned vo) w2):=Zh ⟨⟨vo,rfl,by rw[HH.out]; simpa using x2⟩,hS2.below⟩;clear hS2 x1 x2 HP;go_wp2_with fail;go_ret;exact HQ.out
   ·have q0:((n4:Int)==0)=false:=by rw[beq_eq_false_iff_ne]; omega
    have HH:Hid (headB left tests right subject (n4==0)=left.wordsB++tests.flatMap Ya6++⟨#[44]⟩::(subject.wordsB++[⟨#[58]⟩,⟨#[123]⟩])):=Zh (by unfold headB; rw[if_neg (by simpa using hn4)]);have HP:=Zh (HSF.out.put subject k3 ⟨#[44]⟩ _ H3.out (by rw[List.length_append]; omega));have hx3:=Ya9 k3;clear hn4;go_wp2_with fail;refine HP.out.mono ?_;rintro e w2 ⟨rfl,F2,hS2,_⟩;rw[if_neg Zd] at hS2;obtain⟨vo,x1,x2,x3,_⟩:=hS2.out.ex;have u0:w2.cell? ⟨w.heap.size+1,0,none⟩=some vo:=by simp[World.cell?,x1]
    have hob:=(Zg x1).1;have hVb:=below_alloc1 w2 (.cells #[.string ⟨#[58]⟩,.string ⟨#[123]⟩] 9);obtain⟨L,HL⟩:∃L,Hid (L=left.wordsB++tests.flatMap Ya6++[⟨#[44]⟩]++subject.wordsB):=⟨_,Zh rfl⟩;rw[<-HL.out] at x2;have hLl:L.length<=200000000:=by rw[HL.out]; simp only[List.length_append,List.length_cons,List.length_nil]; omega
    have HB2:=Zh hS2.below;have hw2:=hS2.below.size;clear hS2 HP;go_wp2_with (at_builtin; refine YcJ rfl _ _ 23 rfl w.heap.size 9 1 16 Yep vo L.length (L.map Value.string) rfl ((Keep.of_below (S:=fun _=>False) hVb).owns x2 (fun _ _ q=>q)) (some ⟨w2.heap.size,0,none⟩) 2 2 [.string ⟨#[58]⟩,.string ⟨#[123]⟩] rfl rfl (fun _=>⟨w2.heap.size,0,rfl,by have:=World.news_of_block (cs:=#[.string ⟨#[58]⟩,.string ⟨#[123]⟩]) (t:=9) (fr:=(0,0)) (heap_alloc_new w2 (.cells #[.string ⟨#[58]⟩,.string ⟨#[123]⟩] 9)); simpa using this⟩) (by simp[Value.oneCell']) (by unfold maxLen; omega) Zo (by simp; omega) ?_);intro v' w9 ho' hg' hat';obtain⟨ao',n',cap',rfl⟩:∃ao n cap,v'= .slice ao n cap:=by
     obtain⟨ao,cap,e,_⟩:=YZ ho';exact⟨ao,_,cap,e⟩
    have HQ:Hid (YqK w (headB left tests right subject (n4==0)) (.returned (.slice ao' n' cap')) w9):=Zh ⟨⟨_,rfl,by
     rw[HH.out,show left.wordsB++tests.flatMap Ya6++⟨#[44]⟩::(subject.wordsB++[⟨#[58]⟩,⟨#[123]⟩])=L++[⟨#[58]⟩,⟨#[123]⟩] by rw[HL.out]; simp,List.length_append,List.map_append];exact ho'⟩,HB2.out.trans (((hVb.mono hw2)).grown hg' (by simp; omega) (fun k e=>(x2.lt k e).1))⟩
    clear ho' hg' hat' x1 x2 x3 hVb;go_wp2_with fail;go_ret;exact HQ.out
end
end Go.Proofs.YteamjdmhdfjopaaGreatDoor
