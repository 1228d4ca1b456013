/- A part of the proof; it holds the texts Wrq Wrs Wrt (names and blanks shortened). -/
import Derived.Test.YteamjdmhdfjopaaGreatDoorC39
import Derived.Laws.EntriesVeiled
import Derived.Laws.OwnMore
import Derived.Deep.RegionWith
namespace Go.Proofs.YteamjdmhdfjopaaGreatDoor
open Go.RowKit
set_option maxRecDepth 100000
set_option maxHeartbeats 8000000
set_option linter.unusedVariables false
set_option linter.unusedSimpArgs false
set_option linter.unnecessarySimpa false
section
open Go.RowKit Go.Shelf
theorem alloc2 (w:World)(a b:Array Value)(ta tb:TypeId)(W:World)(hW:W=(w.alloc (.cells a ta)).alloc (.cells b tb)):
 W.heap[w.heap.size]? =some (.cells a ta (0,0))/\W.heap[w.heap.size+1]? =some (.cells b tb (0,0))/\Below w.heap.size w W/\W.heap.size=w.heap.size+2:=by
 have h0:=heap_alloc_new w (.cells a ta);have g0:=below_alloc1 w (.cells a ta);have z0:(w.alloc (.cells a ta)).heap.size=w.heap.size+1:=Zs;rw[hW];clear hW;generalize w.alloc (.cells a ta)=W1 at h0 g0 z0⊢;have h1:=heap_alloc_new W1 (.cells b tb);have g1:=below_alloc1 W1 (.cells b tb);rw[z0] at h1;exact⟨(g1.block _ Zo).trans h0,h1,g0.trans (g1.mono Zo),by simp[z0]⟩
theorem lines_any (a0 a1 a2 a3 a4:Option Addr)(n0 n1 n2 n3 n4 c0 c1 c2 c3 c4:Nat)(indent:Int)(w:World):
 Calls Tryz.prog 114 #[.agg #[.slice a0 n0 c0,.slice a1 n1 c1,.slice a2 n2 c2,.slice a3 n3 c3,.slice a4 n4 c4],.int .i64 indent] w fun e w'=>e= .returned (.func (.func 151) #[] #[.pointer (some ⟨w.heap.size,0,none⟩),.pointer (some ⟨w.heap.size+1,0,none⟩)])/\
  w'=(w.alloc (.cells #[.slice a0 n0 c0,.slice a1 n1 c1,.slice a2 n2 c2,.slice a3 n3 c3,.slice a4 n4 c4] 39)).alloc (.cells #[.int .i64 indent] 3):=by
 go_enter Tryz.func114,Tryz.ntmps114;go_wp2;go_ret;exact⟨rfl,rfl⟩
theorem Ynb (lf r sb:Ts)(t:List (Ts×Ts))(bl:Ss)(a0 a1 a2 a3 a4:Option Addr)(n0 n1 n2 n3 n4 c0 c1 c2 c3 c4:Nat)(indent:Int)(F0:Nat->Prop)(w:World)(q p:Nat)
 (hq:w.heap[q]? =some (.cells #[.slice a0 n0 c0,.slice a1 n1 c1,.slice a2 n2 c2,.slice a3 n3 c3,.slice a4 n4 c4] 39 (0,0)))(hp:w.cell? ⟨p,0,none⟩=some (.int .i64 indent))(hF:¬F0 q/\¬F0 p)
 (h0:TsV w (fun k=>k<w.heap.size/\¬F0 k) (.slice a0 n0 c0) lf)(h1:Y3 w (fun k=>k<w.heap.size/\¬F0 k) (.slice a1 n1 c1) t)(h2:TsV w (fun k=>k<w.heap.size/\¬F0 k) (.slice a2 n2 c2) r)(h3:TsV w (fun k=>k<w.heap.size/\¬F0 k) (.slice a3 n3 c3) sb)(h4:SsV w (fun k=>k<w.heap.size/\¬F0 k) (.slice a4 n4 c4) bl)
 (k0:lf.ok)(k1:YcK t/\t.length<=10000)(k2:r.ok)(k3:sb.ok)(k4:bl.okS/\bl.len<=1000000)(hi0:0<=indent)(hi1:indent+2*bl.sz<=1000000000000):
 SeqR Tryz.prog 151 #[.pointer (some ⟨q,0,none⟩),.pointer (some ⟨p,0,none⟩)] Ykl (YM indent lf t r sb bl) F0 w:=by
 intro l J F W hb hFF hJ hY hJ0 hlt;have hql:=(Zg hq).1;have hpl:=World.block_lt_of_cell? w _ hp;dsimp only at hpl;have hqW:=(hb.block q hql).trans hq;have s0:W.cell? ⟨q,0,none⟩=some (.slice a0 n0 c0):=by simp[World.cell?,hqW]
 have s1:W.cell? ⟨q,1,none⟩=some (.slice a1 n1 c1):=by simp[World.cell?,hqW]
 have s2:W.cell? ⟨q,2,none⟩=some (.slice a2 n2 c2):=by simp[World.cell?,hqW]
 have s3:W.cell? ⟨q,3,none⟩=some (.slice a3 n3 c3):=by simp[World.cell?,hqW]
 have s4:W.cell? ⟨q,4,none⟩=some (.slice a4 n4 c4):=by simp[World.cell?,hqW]
 have i0:=(hb.cell (p:=⟨p,0,none⟩) hpl).trans hp;have hqw:q<W.heap.size:=Nat.lt_of_lt_of_le hql hb.size;have hpw:p<W.heap.size:=Nat.lt_of_lt_of_le hpl hb.size;have hq1:q<W.heap.size+1:=Zo;have hp1:p<W.heap.size+1:=Zo;obtain⟨V,hV⟩:∃V,V=(W.alloc (.cells #[.func (.yield l) #[] #[]] 230)).alloc (.cells #[.func (.func 152) #[] #[.pointer (some ⟨W.heap.size,0,none⟩),.pointer (some ⟨W.heap.size+1,0,none⟩)]] 231):=⟨_,rfl⟩;obtain⟨x0,x1,hVb,hVz⟩:=alloc2 W _ _ _ _ V hV;have kb:∀k,(k<w.heap.size/\¬F0 k)->k<w.heap.size->V.heap[k]? =w.heap[k]?:=fun k q _=>(hVb.block k (Nat.lt_of_lt_of_le q.1 hb.size)).trans (hb.block k q.1);have kn:∀k,(k<w.heap.size/\¬F0 k)->k<w.heap.size->(k<V.heap.size/\¬F k):=fun k q _=>⟨by have:=hb.size; omega,fun e=>q.2 (hFF k e)⟩;have HW:=Zh (Yon W.heap.size l W.heap.size (W.heap.size+1) J (YM indent lf t r sb bl) hJ (fun pre x r F W1 args=>hY pre x r F W1 args) (bl.sz+1) lf t r sb bl _ _ _ _ _ indent F V [] [] Zo Zs Zo (fun k e=>by have:=hlt k e; omega)
  (by simp[World.cell?,x0,yV]) (by simp[World.cell?,x1,lwV]) (fun e=>by have:=hlt _ e; omega) (fun e=>by have:=hlt _ e; omega) (h0.keep kb kn) (h1.keep kb kn) (h2.keep kb kn) (h3.keep kb kn) (h4.keep kb kn) k0 k1 k2 k3 k4 hi0 hi1 (hJ _ F W V hJ0 (Keep.of_below hVb)))
 have HVB:=Zh hVb;have HV:=Zh hV;show Calls Tryz.prog 151 #[.func (.yield l) #[] #[],.pointer (some ⟨q,0,none⟩),.pointer (some ⟨p,0,none⟩)] W _;clear hJ hY hJ0 hlt hFF kb kn h0 h1 h2 h3 h4 k0 k1 k2 k3 k4 x0 x1 hVb hVz hV hqW hb;go_enter Tryz.func151,Tryz.ntmps151;go_wp2_with fail;rw[<-HV.out];refine HW.out.mono ?_;rintro e Y ⟨rfl,F',hJ',hG'⟩;have HQ:Hid (∃F',J (YM indent lf t r sb bl) F' Y/\Grow F F' W Y):=Zh ⟨F',by simpa using hJ',Grow.after (Keep.of_below HVB.out) hG'⟩;clear hJ' hG';go_wp2_with fail;go_end0
 exact⟨⟨_,rfl⟩,HQ.out⟩
end
section
open Go.RowKit Go.Shelf
def YbL (ws:List ByteArray)(ends:Bool):List ByteArray:=if ends then ws.set (ws.length - 1) ((ws.getD (ws.length - 1) ⟨#[]⟩)++⟨#[59]⟩) else ws
theorem Ymx (ws:List ByteArray)(ends:Bool):(YbL ws ends).length=ws.length:=by unfold YbL; split<;>simp
theorem YbV {w:World}:∀(l:List ByteArray) (b off:Nat),YeK w l b off->∀j u,(l.map Value.string)[j]? =some u->w.cell? ⟨b,off+j,none⟩=some u
 |[],_,_,_,j,u,h=>by simp at h
 |s::l,b,off,⟨h0,h1⟩,0,u,h=>by simp at h; subst h; exact h0
 |
  s::l,b,off,⟨h0,h1⟩,j+1,u,h=>by
  have:=YbV l b (off+1) h1 j u (by simpa using h);rw[show off+(j+1)=off+1+j by omega];exact this
def SemQ (w:World)(ws:List ByteArray)(e:Ending)(w':World):Prop:=(∃v,e= .returned v/\w'.ownsRow w.heap.size 9 1 v ws.length (ws.map Value.string))/\Below w.heap.size w w'
theorem YgZ (indent:Int)(v:Value)(ws:List ByteArray)(ends:Bool)(w:World)(hv:JG w (fun _=>True) v ws)(hne:ws≠[])(hlen:ws.length<=1000000000)(hsz:∀x∈ws,x.size<=10000000):
 Calls Tryz.prog 68 #[.agg #[.int .i64 indent,v,.bool ends]] w (SemQ w (YbL ws ends)):=by
 obtain⟨ao,cap,rfl,ht⟩:=hv;obtain⟨g,o,rfl,_,hat,hcap⟩:=ht hne;have hcells:=YbV ws g o hat;have hwl:0<ws.length:=by cases ws with | nil=>exact absurd rfl hne | cons=>simp
 have hbx:=below_alloc1 w (.cells #[.int .i64 indent,.slice (some ⟨g,o,none⟩) ws.length cap,.bool ends] 112);have hn:=heap_alloc_new w (.cells #[.int .i64 indent,.slice (some ⟨g,o,none⟩) ws.length cap,.bool ends] 112);have hz:(w.alloc (.cells #[.int .i64 indent,.slice (some ⟨g,o,none⟩) ws.length cap,.bool ends] 112)).heap.size=w.heap.size+1:=Zs;have HC:=Zh (fun j u h=>(hbx.cell (p:=⟨g,o+j,none⟩) (World.block_lt_of_cell? w _ (hcells j u h))).trans (hcells j u h));obtain⟨V,hV⟩:∃V,V=w.alloc (.cells #[.int .i64 indent,.slice (some ⟨g,o,none⟩) ws.length cap,.bool ends] 112):=⟨_,rfl⟩;rw[<-hV] at hbx hn hz HC;have HV:=Zh hV;have HSZ:=Zh hsz;clear hat hcells hV hsz ht hcap hne;go_enter Tryz.func68,Tryz.ntmps68;go_upto_region 1 with(fail)
 rw[<-HV.out];have c1:V.cell? ⟨w.heap.size,1,none⟩=some (.slice (some ⟨g,o,none⟩) ws.length cap):=by simp[World.cell?,hn]
 have HN:=Zh hn;have HBX:=Zh hbx;clear hn hbx;go_wp2_with (at_builtin; refine YcJ rfl _ _ 23 rfl w.heap.size 9 1 16 Yep (.slice none 0 0) 0 [] rfl (World.ownsRow_nil _ _ _ _) (some ⟨g,o,none⟩) ws.length cap (ws.map Value.string) rfl Zs (fun _=>⟨g,o,rfl,HC.out⟩) (by intro u hu; obtain⟨s,_,rfl⟩:=List.mem_map.1 hu; rfl) (by unfold maxLen; omega) Zo Zo ?_);intro v' w1 ho' hg' _;obtain⟨g1,cap1,rfl⟩:∃g1 cap1,v'= .slice (some ⟨g1,0,none⟩) ws.length cap1:=by
  obtain⟨ao,cap,e,h⟩:=YZ ho';obtain⟨g1,rfl⟩:=h Zo;exact⟨g1,cap,e⟩
 have hb1:Below w.heap.size w w1:=HBX.out.grown hg' Zo (fun k e=>by simp[Value.ownBlock] at e);have hn1:w1.heap[w.heap.size]? =_:=(hg'.block _ Zo (by simp[Value.ownBlock])).trans HN.out;have c2:w1.cell? ⟨w.heap.size,2,none⟩=some (.bool ends):=by simp[World.cell?,hn1]
 have HO:=Zh ho';have HB1:=Zh hb1;have hw1:w.heap.size<w1.heap.size:=(Zg hn1).1;clear ho' hg' hn1 hb1 c1;cases ends with
 |
  false=>
  have HQ:Hid (SemQ w (YbL ws false) (.returned (.slice (some ⟨g1,0,none⟩) ws.length cap1)) w1):=Zh ⟨⟨_,rfl,HO.out⟩,HB1.out⟩;go_wp2_with fail;go_ret;exact HQ.out
 |
  true=>
  obtain⟨n,hnl⟩:∃n,ws.length=n+1:=⟨ws.length - 1,by omega⟩;have hnlt:n<ws.length:=Zo;have hcell:w1.cell? ⟨g1,n,none⟩=some (.string ws[n]):=by
   have:=HO.out.cellAt n Zo;rw[this];simp[hnlt]
  have hfr:w1.frozen? ⟨g1,n,none⟩=false:=HO.out.frozenAt n;have hst:=HO.out.stored n (.string (ws[n]++⟨#[59]⟩));have hxs:=HSZ.out _ (List.getElem_mem hnlt);have hown:=HO.out.lt g1 (by simp[Value.ownBlock]);have HQ:Hid (SemQ w (YbL ws true) (.returned (.slice (some ⟨g1,0,none⟩) ws.length cap1)) (w1.setCell ⟨g1,n,none⟩ (.string (ws[n]++⟨#[59]⟩)))):=Zh ⟨⟨_,rfl,by
   have e:YbL ws true=ws.set n (ws[n]++⟨#[59]⟩):=by
    unfold YbL;rw[if_pos rfl,hnl,Nat.add_sub_cancel,List.getD_eq_getElem?_getD,List.getElem?_eq_getElem hnlt,Option.getD_some]
   rw[e,List.length_set,List.map_set];exact hst.1⟩,HB1.out.setCell (p:=⟨g1,n,none⟩) hown.1 _⟩
  have w9:wrap64 (n:Int)=n:=Yhv _ Zo Zo;generalize ws[n]=x at*;have HNL:=Zh hnl;clear hst hnlt HO;rw[hnl];have lz:decide (n<n+1)=true:=Zt;rw[hnl] at HQ;clear hnl hwl hlen;go_wp2_with fail;go_ret;exact HQ.out
end
section
open Go.RowKit Go.Shelf
def YeM (c:Nat):ByteArray:=⟨(Lib.repeatL [32] c).toArray⟩
def YbN (sep:ByteArray)(ws:List ByteArray):ByteArray:=⟨(Lib.join (ws.map (·.data.toList)) sep.data.toList).toArray⟩
def Yjj (c:Nat)(ws:List ByteArray)(ends:Bool):ByteArray:=YeM c++YbN ⟨#[32]⟩ (YbL ws ends)
theorem Yod (xs:List ByteArray)(sep:ByteArray)(v:Value)(w:World)(hv:JG w (fun _=>True) v xs)(hN:xs.length<=140737488355328)(hlen:(YbN sep xs).size<=140737488355328):
 Calls Tryz.prog 61 #[v,.string sep] w fun e w'=>e= .returned (.string (YbN sep xs))/\Below w.heap.size w w':=by
 obtain⟨ao,cap,rfl,ht⟩:=hv;cases xs with
 |
  nil=>
  refine(Tryz.strings_Join_none ao cap sep w).mono ?_;rintro e w' ⟨rfl,rfl⟩;exact⟨rfl,Below.refl _ _⟩
 |
  cons x l=>
  obtain⟨g,o,rfl,_,hat,hcap⟩:=ht (fun q=>by cases q);have hg:=World.block_lt_of_cell? w _ hat.1;refine(Tryz.strings_Join g o cap (x::l) sep w (fun j y hj=>YbV (x::l) g o hat j _ (by rw[List.getElem?_map,hj]; rfl)) hg hN hcap ?_).mono ?_
  ·have e:∀l:List UInt8,(⟨l.toArray⟩:ByteArray).size=l.length:=YbE;unfold YbN at hlen;rw[e] at hlen;exact hlen
  ·rintro e w' ⟨rfl,hb⟩;exact⟨rfl,hb⟩
theorem YlJ (c:Nat)(v:Value)(ws:List ByteArray)(ends:Bool)(w:World)(hv:JG w (fun _=>True) v ws)(hne:ws≠[])(hlen:ws.length<=1000000000)(hsz:∀x∈ws,x.size<=10000000)(hc:c<=1000000)(hj:(YbN ⟨#[32]⟩ (YbL ws ends)).size<=100000000000):
 Calls Tryz.prog 66 #[.agg #[.int .i64 c,v,.bool ends]] w fun e w'=>e= .returned (.string (Yjj c ws ends))/\Below w.heap.size w w':=by
 obtain⟨ao,cap,rfl⟩:∃ao cap,v= .slice ao ws.length cap:=by obtain⟨ao,cap,e,_⟩:=hv; exact⟨ao,cap,e⟩
 obtain⟨V,hV⟩:∃V,V=w.alloc (.cells #[.int .i64 c,.slice ao ws.length cap,.bool ends] 112):=⟨_,rfl⟩;have hbx:Below w.heap.size w V:=by rw[hV]; exact below_alloc1 _ _
 have hn:V.heap[w.heap.size]? =some (.cells #[.int .i64 c,.slice ao ws.length cap,.bool ends] 112 (0,0)):=by rw[hV]; exact heap_alloc_new _ _
 have hvl:w.heap.size<V.heap.size:=(Zg hn).1;have t0:V.cell? ⟨w.heap.size,0,none⟩=some (.int .i64 c):=by simp[World.cell?,hn]
 have t1:V.cell? ⟨w.heap.size,1,none⟩=some (.slice ao ws.length cap):=by simp[World.cell?,hn]
 have t2:V.cell? ⟨w.heap.size,2,none⟩=some (.bool ends):=by simp[World.cell?,hn]
 have T0:=Zh t0;have T1:=Zh t1;have T2:=Zh t2;have HVL:=Zh hvl;have HBX:=Zh hbx;have HV:=Zh hV;have hcell:∀W,Below V.drew.heap.size V.drew W->W.cell? ⟨w.heap.size,0,none⟩=some (.int .i64 c)/\W.cell? ⟨w.heap.size,1,none⟩=some (.slice ao ws.length cap)/\W.cell? ⟨w.heap.size,2,none⟩=some (.bool ends):=fun W hb=>
  ⟨(hb.cell (p:=⟨w.heap.size,0,none⟩) hvl).trans t0,(hb.cell (p:=⟨w.heap.size,1,none⟩) hvl).trans t1,(hb.cell (p:=⟨w.heap.size,2,none⟩) hvl).trans t2⟩
 have HCL:=Zh hcell;have hsp:(YeM c).size<=1000000:=by
  have e:∀l:List UInt8,(⟨l.toArray⟩:ByteArray).size=l.length:=YbE;unfold YeM;rw[e];rw[Lib.repeatL_length]; simpa using hc
 obtain⟨S1,HS1⟩:∃S1,Hid (S1=YeM c):=⟨_,Zh rfl⟩;obtain⟨S2,HS2⟩:∃S2,Hid (S2=YbN ⟨#[32]⟩ (YbL ws ends)):=⟨_,Zh rfl⟩;have HRep:=Zh (show ∀W,Below V.drew.heap.size V.drew W->Calls Tryz.prog 67 #[.string ⟨#[32]⟩,.int .i64 c] W fun e W'=>e= .returned (.string S1)/\Below V.drew.heap.size V.drew W'/\Below W.heap.size W W' from fun W hb=>by
  refine(Tryz.strings_Repeat ⟨#[32]⟩ c W Zo (by show 1*c<=_; omega)).mono ?_;rintro e W' ⟨rfl,hb2⟩;exact⟨by rw[HS1.out]; rfl,hb.trans (hb2.mono hb.size),hb2⟩)
 have HSem:=Zh (show ∀W,Below V.drew.heap.size V.drew W->Calls Tryz.prog 68 #[.agg #[.int .i64 c,.slice ao ws.length cap,.bool ends]] W fun e W'=>(∃a n k,e= .returned (.slice a n k)/\∀W2,Below W'.heap.size W' W2->Calls Tryz.prog 61 #[.slice a n k,.string ⟨#[32]⟩] W2 fun e W3=>e= .returned (.string S2)/\Below W2.heap.size W2 W3)/\Below V.drew.heap.size V.drew W'/\Below W.heap.size W W' from fun W hb=>by
  have hvW:JG W (fun _=>True) (.slice ao ws.length cap) ws:=hv.keep (fun k _ hk=>(hb.block k (Nat.lt_of_lt_of_le hk hbx.size)).trans (hbx.block k hk)) (fun _ _ _=>trivial);refine(YgZ c _ ws ends W hvW hne hlen hsz).mono ?_;rintro e W' ⟨⟨v',rfl,ho⟩,hb2⟩;obtain⟨a,k,rfl,_⟩:=YZ ho;refine⟨⟨a,_,k,rfl,fun W2 hb3=>?_⟩,hb.trans (hb2.mono hb.size),hb2⟩;have hst:JG W2 (fun _=>True) (.slice a (YbL ws ends).length k) (YbL ws ends):=(JG.of_owns (T:=fun _=>True) ho (fun _ _ _=>trivial)).keep (fun i _ hi=>hb3.block i hi) (fun _ _ _=>trivial);have:=Yod (YbL ws ends) ⟨#[32]⟩ _ W2 hst (by rw[Ymx]; omega) Zo;rw[<-HS2.out] at this;exact this)
 have p1:S1.size<=1000000:=by rw[HS1.out]; exact hsp
 have p2:S2.size<=100000000000:=by rw[HS2.out]; exact hj
 clear hbx hn hvl hcell hv hne hlen hsz hc hj hsp hV;go_enter Tryz.func66,Tryz.ntmps66;go_upto_region 1 with(fail)
 rw[<-HV.out];go_region_with (first
  |(
    refine(HRep.out _ (by first | exact Below.refl _ _ | assumption)).mono ?_;rintro e wa ⟨rfl,hbA,hbR⟩;obtain⟨t0,t1,t2⟩:=HCL.out _ hbA)
  |(
    refine(HSem.out _ (by first | exact Below.refl _ _ | assumption)).mono ?_;rintro e wb ⟨⟨a,n,k,rfl,hJn⟩,hbA,hbS⟩;obtain⟨t0,t1,t2⟩:=HCL.out _ hbA;have HJn:=Zh hJn;clear hJn)
  |(
    refine(HJn.out _ (by first | exact Below.refl _ _ | assumption)).mono ?_;rintro e wj ⟨rfl,hbJ⟩;have hbA:=(by assumption:Below V.drew.heap.size V.drew _).trans (hbJ.mono (by assumption:Below V.drew.heap.size V.drew _).size);obtain⟨t0,t1,t2⟩:=HCL.out _ hbA))
 all_goals
  have HQ:=Zh (HBX.out.trans ((YbD hbA).mono HBX.out.size));go_wp2_with fail;go_ret;exact⟨by unfold Yjj; rw[<-HS1.out,<-HS2.out]; rfl,HQ.out⟩
end
end Go.Proofs.YteamjdmhdfjopaaGreatDoor
