/- A part of the proof; it holds the texts Wrq Wrs Wrt Rfc Rfd Rfe Rff Prg Rse (names and blanks shortened). -/
import Derived.Test.YteamjdmhdfjopaaGreatDoorM37
import Derived.Laws.EntriesVeiled
import Derived.Laws.OwnMore
import Derived.Deep.RegionWith
import Derived.Test.YteamjdmhdfjopaaGreatDoorM36
import Derived.BigRegion
import Derived.Test.YteamjdmhdfjopaaGreatDoorM2
import Derived.Deep.RegionLaw
import Derived.Test.YteamjdmhdfjopaaGreatDoorM9
import Derived.Test.YteamjdmhdfjopaaGreatDoorM5
namespace Go.Proofs.YteamjdmhdfjopaaGreatDoor
open Go.RowKit
set_option maxRecDepth 100000
set_option maxHeartbeats 8000000
set_option linter.unusedVariables false
set_option linter.unusedSimpArgs false
set_option linter.unnecessarySimpa false
section
open Go.RowKit Go.Shelf
theorem alloc2 (w:World)(a b:Array Value)(ta tb:TypeId)(W:World)(hW:W=(w.alloc (.cells a ta)).alloc (.cells b tb)):
 W.heap[w.heap.size]? =some (.cells a ta (0,0))/\W.heap[w.heap.size+1]? =some (.cells b tb (0,0))/\Below w.heap.size w W/\W.heap.size=w.heap.size+2:=by
 have h0:=heap_alloc_new w (.cells a ta);have g0:=below_alloc1 w (.cells a ta);have z0:(w.alloc (.cells a ta)).heap.size=w.heap.size+1:=Zs;rw[hW];clear hW;generalize w.alloc (.cells a ta)=W1 at h0 g0 z0⊢;have h1:=heap_alloc_new W1 (.cells b tb);have g1:=below_alloc1 W1 (.cells b tb);rw[z0] at h1;exact⟨(g1.block _ Zo).trans h0,h1,g0.trans (g1.mono Zo),by simp[z0]⟩
theorem lines_any (a0 a1 a2 a3 a4:Option Addr)(n0 n1 n2 n3 n4 c0 c1 c2 c3 c4:Nat)(indent:Int)(w:World):
 Calls Tryz.prog 114 #[.agg #[.slice a0 n0 c0,.slice a1 n1 c1,.slice a2 n2 c2,.slice a3 n3 c3,.slice a4 n4 c4],.int .i64 indent] w fun e w'=>e= .returned (.func (.func 151) #[] #[.pointer (some ⟨w.heap.size,0,none⟩),.pointer (some ⟨w.heap.size+1,0,none⟩)])/\
  w'=(w.alloc (.cells #[.slice a0 n0 c0,.slice a1 n1 c1,.slice a2 n2 c2,.slice a3 n3 c3,.slice a4 n4 c4] 39)).alloc (.cells #[.int .i64 indent] 3):=by
 go_enter Tryz.func114,Tryz.ntmps114;go_wp2;go_ret;exact⟨rfl,rfl⟩
theorem Ylg (lf r sb:Ts)(t:List (Ts×Ts))(bl:Ss)(a0 a1 a2 a3 a4:Option Addr)(n0 n1 n2 n3 n4 c0 c1 c2 c3 c4:Nat)(indent:Int)(F0:Nat->Prop)(w:World)(q p:Nat)
 (hq:w.heap[q]? =some (.cells #[.slice a0 n0 c0,.slice a1 n1 c1,.slice a2 n2 c2,.slice a3 n3 c3,.slice a4 n4 c4] 39 (0,0)))(hp:w.cell? ⟨p,0,none⟩=some (.int .i64 indent))(hF:¬F0 q/\¬F0 p)
 (h0:TsV w (fun k=>k<w.heap.size/\¬F0 k) (.slice a0 n0 c0) lf)(h1:Jv w (fun k=>k<w.heap.size/\¬F0 k) (.slice a1 n1 c1) t)(h2:TsV w (fun k=>k<w.heap.size/\¬F0 k) (.slice a2 n2 c2) r)(h3:TsV w (fun k=>k<w.heap.size/\¬F0 k) (.slice a3 n3 c3) sb)(h4:SsV w (fun k=>k<w.heap.size/\¬F0 k) (.slice a4 n4 c4) bl)
 (k0:lf.ok)(k1:Ydp t/\t.length<=10000)(k2:r.ok)(k3:sb.ok)(k4:bl.okS/\bl.len<=1000000)(hi0:0<=indent)(hi1:indent+2*bl.sz<=1000000000000):
 SeqR Tryz.prog 151 #[.pointer (some ⟨q,0,none⟩),.pointer (some ⟨p,0,none⟩)] YiP (Y0 indent lf t r sb bl) F0 w:=by
 intro l J F W hb hFF hJ hY hJ0 hlt;have hql:=(Zg hq).1;have hpl:=World.block_lt_of_cell? w _ hp;dsimp only at hpl;have hqW:=(hb.block q hql).trans hq;have s0:W.cell? ⟨q,0,none⟩=some (.slice a0 n0 c0):=by simp[World.cell?,hqW]
 have s1:W.cell? ⟨q,1,none⟩=some (.slice a1 n1 c1):=by simp[World.cell?,hqW]
 have s2:W.cell? ⟨q,2,none⟩=some (.slice a2 n2 c2):=by simp[World.cell?,hqW]
 have s3:W.cell? ⟨q,3,none⟩=some (.slice a3 n3 c3):=by simp[World.cell?,hqW]
 have s4:W.cell? ⟨q,4,none⟩=some (.slice a4 n4 c4):=by simp[World.cell?,hqW]
 have i0:=(hb.cell (p:=⟨p,0,none⟩) hpl).trans hp;have hqw:q<W.heap.size:=Nat.lt_of_lt_of_le hql hb.size;have hpw:p<W.heap.size:=Nat.lt_of_lt_of_le hpl hb.size;have hq1:q<W.heap.size+1:=Zo;have hp1:p<W.heap.size+1:=Zo;obtain⟨V,hV⟩:∃V,V=(W.alloc (.cells #[.func (.yield l) #[] #[]] 230)).alloc (.cells #[.func (.func 152) #[] #[.pointer (some ⟨W.heap.size,0,none⟩),.pointer (some ⟨W.heap.size+1,0,none⟩)]] 231):=⟨_,rfl⟩;obtain⟨x0,x1,hVb,hVz⟩:=alloc2 W _ _ _ _ V hV;have kb:∀k,(k<w.heap.size/\¬F0 k)->k<w.heap.size->V.heap[k]? =w.heap[k]?:=fun k q _=>(hVb.block k (Nat.lt_of_lt_of_le q.1 hb.size)).trans (hb.block k q.1);have kn:∀k,(k<w.heap.size/\¬F0 k)->k<w.heap.size->(k<V.heap.size/\¬F k):=fun k q _=>⟨by have:=hb.size; omega,fun e=>q.2 (hFF k e)⟩;have HW:=Zh (Yl8 W.heap.size l W.heap.size (W.heap.size+1) J (Y0 indent lf t r sb bl) hJ (fun pre x r F W1 args=>hY pre x r F W1 args) (bl.sz+1) lf t r sb bl _ _ _ _ _ indent F V [] [] Zo Zs Zo (fun k e=>by have:=hlt k e; omega)
  (by simp[World.cell?,x0,yV]) (by simp[World.cell?,x1,lwV]) (fun e=>by have:=hlt _ e; omega) (fun e=>by have:=hlt _ e; omega) (h0.keep kb kn) (h1.keep kb kn) (h2.keep kb kn) (h3.keep kb kn) (h4.keep kb kn) k0 k1 k2 k3 k4 hi0 hi1 (hJ _ F W V hJ0 (Keep.of_below hVb)))
 have HVB:=Zh hVb;have HV:=Zh hV;show Calls Tryz.prog 151 #[.func (.yield l) #[] #[],.pointer (some ⟨q,0,none⟩),.pointer (some ⟨p,0,none⟩)] W _;clear hJ hY hJ0 hlt hFF kb kn h0 h1 h2 h3 h4 k0 k1 k2 k3 k4 x0 x1 hVb hVz hV hqW hb;go_enter Tryz.func151,Tryz.ntmps151;go_wp2_with fail;rw[<-HV.out];refine HW.out.mono ?_;rintro e Y ⟨rfl,F',hJ',hG'⟩;have HQ:Hid (∃F',J (Y0 indent lf t r sb bl) F' Y/\Grow F F' W Y):=Zh ⟨F',by simpa using hJ',Grow.after (Keep.of_below HVB.out) hG'⟩;clear hJ' hG';go_wp2_with fail;go_end0
 exact⟨⟨_,rfl⟩,HQ.out⟩
end
section
open Go.RowKit Go.Shelf
def YcP (ws:List ByteArray)(ends:Bool):List ByteArray:=if ends then ws.set (ws.length - 1) ((ws.getD (ws.length - 1) ⟨#[]⟩)++⟨#[59]⟩) else ws
theorem Ykv (ws:List ByteArray)(ends:Bool):(YcP ws ends).length=ws.length:=by unfold YcP; split<;>simp
theorem Yb0 {w:World}:∀(l:List ByteArray) (b off:Nat),Yeo w l b off->∀j u,(l.map Value.string)[j]? =some u->w.cell? ⟨b,off+j,none⟩=some u
 |[],_,_,_,j,u,h=>by simp at h
 |s::l,b,off,⟨h0,h1⟩,0,u,h=>by simp at h; subst h; exact h0
 |
  s::l,b,off,⟨h0,h1⟩,j+1,u,h=>by
  have:=Yb0 l b (off+1) h1 j u (by simpa using h);rw[show off+(j+1)=off+1+j by omega];exact this
def SemQ (w:World)(ws:List ByteArray)(e:Ending)(w':World):Prop:=(∃v,e= .returned v/\w'.ownsRow w.heap.size 9 1 v ws.length (ws.map Value.string))/\Below w.heap.size w w'
theorem Ygh (indent:Int)(v:Value)(ws:List ByteArray)(ends:Bool)(w:World)(hv:Yaa w (fun _=>True) v ws)(hne:ws≠[])(hlen:ws.length<=1000000000)(hsz:∀x∈ws,x.size<=10000000):
 Calls Tryz.prog 68 #[.agg #[.int .i64 indent,v,.bool ends]] w (SemQ w (YcP ws ends)):=by
 obtain⟨ao,cap,rfl,ht⟩:=hv;obtain⟨g,o,rfl,_,hat,hcap⟩:=ht hne;have hcells:=Yb0 ws g o hat;have hwl:0<ws.length:=by cases ws with | nil=>exact absurd rfl hne | cons=>simp
 have hbx:=below_alloc1 w (.cells #[.int .i64 indent,.slice (some ⟨g,o,none⟩) ws.length cap,.bool ends] 112);have hn:=heap_alloc_new w (.cells #[.int .i64 indent,.slice (some ⟨g,o,none⟩) ws.length cap,.bool ends] 112);have hz:(w.alloc (.cells #[.int .i64 indent,.slice (some ⟨g,o,none⟩) ws.length cap,.bool ends] 112)).heap.size=w.heap.size+1:=Zs;have HC:=Zh (fun j u h=>(hbx.cell (p:=⟨g,o+j,none⟩) (World.block_lt_of_cell? w _ (hcells j u h))).trans (hcells j u h));obtain⟨V,hV⟩:∃V,V=w.alloc (.cells #[.int .i64 indent,.slice (some ⟨g,o,none⟩) ws.length cap,.bool ends] 112):=⟨_,rfl⟩;rw[<-hV] at hbx hn hz HC;have HV:=Zh hV;have HSZ:=Zh hsz;clear hat hcells hV hsz ht hcap hne;go_enter Tryz.func68,Tryz.ntmps68;go_upto_region 1 with(fail)
 rw[<-HV.out];have c1:V.cell? ⟨w.heap.size,1,none⟩=some (.slice (some ⟨g,o,none⟩) ws.length cap):=by simp[World.cell?,hn]
 have HN:=Zh hn;have HBX:=Zh hbx;clear hn hbx;go_wp2_with (at_builtin; refine YcM rfl _ _ 23 rfl w.heap.size 9 1 16 Yd3 (.slice none 0 0) 0 [] rfl (World.ownsRow_nil _ _ _ _) (some ⟨g,o,none⟩) ws.length cap (ws.map Value.string) rfl Zs (fun _=>⟨g,o,rfl,HC.out⟩) (by intro u hu; obtain⟨s,_,rfl⟩:=List.mem_map.1 hu; rfl) (by unfold maxLen; omega) Zo Zo ?_);intro v' w1 ho' hg' _;obtain⟨g1,cap1,rfl⟩:∃g1 cap1,v'= .slice (some ⟨g1,0,none⟩) ws.length cap1:=by
  obtain⟨ao,cap,e,h⟩:=Je ho';obtain⟨g1,rfl⟩:=h Zo;exact⟨g1,cap,e⟩
 have hb1:Below w.heap.size w w1:=HBX.out.grown hg' Zo (fun k e=>by simp[Value.ownBlock] at e);have hn1:w1.heap[w.heap.size]? =_:=(hg'.block _ Zo (by simp[Value.ownBlock])).trans HN.out;have c2:w1.cell? ⟨w.heap.size,2,none⟩=some (.bool ends):=by simp[World.cell?,hn1]
 have HO:=Zh ho';have HB1:=Zh hb1;have hw1:w.heap.size<w1.heap.size:=(Zg hn1).1;clear ho' hg' hn1 hb1 c1;cases ends with
 |
  false=>
  have HQ:Hid (SemQ w (YcP ws false) (.returned (.slice (some ⟨g1,0,none⟩) ws.length cap1)) w1):=Zh ⟨⟨_,rfl,HO.out⟩,HB1.out⟩;go_wp2_with fail;go_ret;exact HQ.out
 |
  true=>
  obtain⟨n,hnl⟩:∃n,ws.length=n+1:=⟨ws.length - 1,by omega⟩;have hnlt:n<ws.length:=Zo;have hcell:w1.cell? ⟨g1,n,none⟩=some (.string ws[n]):=by
   have:=HO.out.cellAt n Zo;rw[this];simp[hnlt]
  have hfr:w1.frozen? ⟨g1,n,none⟩=false:=HO.out.frozenAt n;have hst:=HO.out.stored n (.string (ws[n]++⟨#[59]⟩));have hxs:=HSZ.out _ (List.getElem_mem hnlt);have hown:=HO.out.lt g1 (by simp[Value.ownBlock]);have HQ:Hid (SemQ w (YcP ws true) (.returned (.slice (some ⟨g1,0,none⟩) ws.length cap1)) (w1.setCell ⟨g1,n,none⟩ (.string (ws[n]++⟨#[59]⟩)))):=Zh ⟨⟨_,rfl,by
   have e:YcP ws true=ws.set n (ws[n]++⟨#[59]⟩):=by
    unfold YcP;rw[if_pos rfl,hnl,Nat.add_sub_cancel,List.getD_eq_getElem?_getD,List.getElem?_eq_getElem hnlt,Option.getD_some]
   rw[e,List.length_set,List.map_set];exact hst.1⟩,HB1.out.setCell (p:=⟨g1,n,none⟩) hown.1 _⟩
  have w9:wrap64 (n:Int)=n:=YgH _ Zo Zo;generalize ws[n]=x at*;have HNL:=Zh hnl;clear hst hnlt HO;rw[hnl];have lz:decide (n<n+1)=true:=Zt;rw[hnl] at HQ;clear hnl hwl hlen;go_wp2_with fail;go_ret;exact HQ.out
end
section
open Go.RowKit Go.Shelf
def Yge (c:Nat):ByteArray:=⟨(Lib.repeatL [32] c).toArray⟩
def Yc9 (sep:ByteArray)(ws:List ByteArray):ByteArray:=⟨(Lib.join (ws.map (·.data.toList)) sep.data.toList).toArray⟩
def Yjz (c:Nat)(ws:List ByteArray)(ends:Bool):ByteArray:=Yge c++Yc9 ⟨#[32]⟩ (YcP ws ends)
theorem Yl0 (xs:List ByteArray)(sep:ByteArray)(v:Value)(w:World)(hv:Yaa w (fun _=>True) v xs)(hN:xs.length<=140737488355328)(hlen:(Yc9 sep xs).size<=140737488355328):
 Calls Tryz.prog 61 #[v,.string sep] w fun e w'=>e= .returned (.string (Yc9 sep xs))/\Below w.heap.size w w':=by
 obtain⟨ao,cap,rfl,ht⟩:=hv;cases xs with
 |
  nil=>
  refine(Tryz.strings_Join_none ao cap sep w).mono ?_;rintro e w' ⟨rfl,rfl⟩;exact⟨rfl,Below.refl _ _⟩
 |
  cons x l=>
  obtain⟨g,o,rfl,_,hat,hcap⟩:=ht (fun q=>by cases q);have hg:=World.block_lt_of_cell? w _ hat.1;refine(Tryz.strings_Join g o cap (x::l) sep w (fun j y hj=>Yb0 (x::l) g o hat j _ (by rw[List.getElem?_map,hj]; rfl)) hg hN hcap ?_).mono ?_
  ·have e:∀l:List UInt8,(⟨l.toArray⟩:ByteArray).size=l.length:=Ye6;unfold Yc9 at hlen;rw[e] at hlen;exact hlen
  ·rintro e w' ⟨rfl,hb⟩;exact⟨rfl,hb⟩
theorem YjN (c:Nat)(v:Value)(ws:List ByteArray)(ends:Bool)(w:World)(hv:Yaa w (fun _=>True) v ws)(hne:ws≠[])(hlen:ws.length<=1000000000)(hsz:∀x∈ws,x.size<=10000000)(hc:c<=1000000)(hj:(Yc9 ⟨#[32]⟩ (YcP ws ends)).size<=100000000000):
 Calls Tryz.prog 66 #[.agg #[.int .i64 c,v,.bool ends]] w fun e w'=>e= .returned (.string (Yjz c ws ends))/\Below w.heap.size w w':=by
 obtain⟨ao,cap,rfl⟩:∃ao cap,v= .slice ao ws.length cap:=by obtain⟨ao,cap,e,_⟩:=hv; exact⟨ao,cap,e⟩
 obtain⟨V,hV⟩:∃V,V=w.alloc (.cells #[.int .i64 c,.slice ao ws.length cap,.bool ends] 112):=⟨_,rfl⟩;have hbx:Below w.heap.size w V:=by rw[hV]; exact below_alloc1 _ _
 have hn:V.heap[w.heap.size]? =some (.cells #[.int .i64 c,.slice ao ws.length cap,.bool ends] 112 (0,0)):=by rw[hV]; exact heap_alloc_new _ _
 have hvl:w.heap.size<V.heap.size:=(Zg hn).1;have t0:V.cell? ⟨w.heap.size,0,none⟩=some (.int .i64 c):=by simp[World.cell?,hn]
 have t1:V.cell? ⟨w.heap.size,1,none⟩=some (.slice ao ws.length cap):=by simp[World.cell?,hn]
 have t2:V.cell? ⟨w.heap.size,2,none⟩=some (.bool ends):=by simp[World.cell?,hn]
 have T0:=Zh t0;have T1:=Zh t1;have T2:=Zh t2;have HVL:=Zh hvl;have HBX:=Zh hbx;have HV:=Zh hV;have hcell:∀W,Below V.drew.heap.size V.drew W->W.cell? ⟨w.heap.size,0,none⟩=some (.int .i64 c)/\W.cell? ⟨w.heap.size,1,none⟩=some (.slice ao ws.length cap)/\W.cell? ⟨w.heap.size,2,none⟩=some (.bool ends):=fun W hb=>
  ⟨(hb.cell (p:=⟨w.heap.size,0,none⟩) hvl).trans t0,(hb.cell (p:=⟨w.heap.size,1,none⟩) hvl).trans t1,(hb.cell (p:=⟨w.heap.size,2,none⟩) hvl).trans t2⟩
 have HCL:=Zh hcell;have hsp:(Yge c).size<=1000000:=by
  have e:∀l:List UInt8,(⟨l.toArray⟩:ByteArray).size=l.length:=Ye6;unfold Yge;rw[e];rw[Lib.repeatL_length]; simpa using hc
 obtain⟨S1,HS1⟩:∃S1,Hid (S1=Yge c):=⟨_,Zh rfl⟩;obtain⟨S2,HS2⟩:∃S2,Hid (S2=Yc9 ⟨#[32]⟩ (YcP ws ends)):=⟨_,Zh rfl⟩;have HRep:=Zh (show ∀W,Below V.drew.heap.size V.drew W->Calls Tryz.prog 67 #[.string ⟨#[32]⟩,.int .i64 c] W fun e W'=>e= .returned (.string S1)/\Below V.drew.heap.size V.drew W'/\Below W.heap.size W W' from fun W hb=>by
  refine(Tryz.strings_Repeat ⟨#[32]⟩ c W Zo (by show 1*c<=_; omega)).mono ?_;rintro e W' ⟨rfl,hb2⟩;exact⟨by rw[HS1.out]; rfl,hb.trans (hb2.mono hb.size),hb2⟩)
 have HSem:=Zh (show ∀W,Below V.drew.heap.size V.drew W->Calls Tryz.prog 68 #[.agg #[.int .i64 c,.slice ao ws.length cap,.bool ends]] W fun e W'=>(∃a n k,e= .returned (.slice a n k)/\∀W2,Below W'.heap.size W' W2->Calls Tryz.prog 61 #[.slice a n k,.string ⟨#[32]⟩] W2 fun e W3=>e= .returned (.string S2)/\Below W2.heap.size W2 W3)/\Below V.drew.heap.size V.drew W'/\Below W.heap.size W W' from fun W hb=>by
  have hvW:Yaa W (fun _=>True) (.slice ao ws.length cap) ws:=hv.keep (fun k _ hk=>(hb.block k (Nat.lt_of_lt_of_le hk hbx.size)).trans (hbx.block k hk)) (fun _ _ _=>trivial);refine(Ygh c _ ws ends W hvW hne hlen hsz).mono ?_;rintro e W' ⟨⟨v',rfl,ho⟩,hb2⟩;obtain⟨a,k,rfl,_⟩:=Je ho;refine⟨⟨a,_,k,rfl,fun W2 hb3=>?_⟩,hb.trans (hb2.mono hb.size),hb2⟩;have hst:Yaa W2 (fun _=>True) (.slice a (YcP ws ends).length k) (YcP ws ends):=(Yaa.of_owns (T:=fun _=>True) ho (fun _ _ _=>trivial)).keep (fun i _ hi=>hb3.block i hi) (fun _ _ _=>trivial);have:=Yl0 (YcP ws ends) ⟨#[32]⟩ _ W2 hst (by rw[Ykv]; omega) Zo;rw[<-HS2.out] at this;exact this)
 have p1:S1.size<=1000000:=by rw[HS1.out]; exact hsp
 have p2:S2.size<=100000000000:=by rw[HS2.out]; exact hj
 clear hbx hn hvl hcell hv hne hlen hsz hc hj hsp hV;go_enter Tryz.func66,Tryz.ntmps66;go_upto_region 1 with(fail)
 rw[<-HV.out];go_region_with (first
  |(
    refine(HRep.out _ (by first | exact Below.refl _ _ | assumption)).mono ?_;rintro e wa ⟨rfl,hbA,hbR⟩;obtain⟨t0,t1,t2⟩:=HCL.out _ hbA)
  |(
    refine(HSem.out _ (by first | exact Below.refl _ _ | assumption)).mono ?_;rintro e wb ⟨⟨a,n,k,rfl,hJn⟩,hbA,hbS⟩;obtain⟨t0,t1,t2⟩:=HCL.out _ hbA;have HJn:=Zh hJn;clear hJn)
  |(
    refine(HJn.out _ (by first | exact Below.refl _ _ | assumption)).mono ?_;rintro e wj ⟨rfl,hbJ⟩;have hbA:=(by assumption:Below V.drew.heap.size V.drew _).trans (hbJ.mono (by assumption:Below V.drew.heap.size V.drew _).size);obtain⟨t0,t1,t2⟩:=HCL.out _ hbA))
 all_goals
  have HQ:=Zh (HBX.out.trans ((YbN hbA).mono HBX.out.size));go_wp2_with fail;go_ret;exact⟨by unfold Yjz; rw[<-HS1.out,<-HS2.out]; rfl,HQ.out⟩
end
theorem Yce {tmps:Array Value}{g:Nat}{V:World}{a b c d e u:Value}(t2:tmps[2]? =some (.pointer (some ⟨g,0,none⟩)))(t3:tmps[3]? =some u)
 (h:V.heap[g]? =some (.cells #[a,b,c,d,e] 85 (0,0))):(results Tryz.f46 tmps).run Tryz.prog V= .ok (.tuple #[.agg #[a,b,c,d,e],u]) V:=by
 obtain⟨c0,c1,c2,c3,c4⟩:=row5 h;simp[results,Tryz.f46,go_sem,t2,t3,c0,c1,c2,c3,c4]
theorem Ymu (g off cap:Nat)(L:List Tk)(en i:Nat)(text:ByteArray)(w:World)(hi:i<L.length)(hL:L.length<=40000)(hg:g<w.heap.size)
 (d0:w.cell? ⟨g,off+i*3,none⟩=some (.int .i64 3))(d1:w.cell? ⟨g,off+i*3+1,none⟩=some (.string text))(h40:text.size<=40):
 Calls Tryz.prog 46 #[rV (some ⟨g,off,none⟩) cap L en i 0 0] w fun e w'=>e= .returned (.tuple #[rV (some ⟨g,off,none⟩) cap L en ((i:Int)+1) 0 0,.string text])/\Below w.heap.size w w':=by
 have h2:=RTwo.start w (arR (some ⟨g,off,none⟩) cap L en i 0 0) zR;unfold arR zR at h2;have l0:decide ((i:Int)<(L.length:Int))=true:=Zt;have l1:decide (i<L.length)=true:=decide_eq_true hi;have l2:decide ((L.length:Int)<=(i:Int))=false:=Zf;have l3:decide (L.length<=i)=false:=Zf;have g1:decide ((40:Int)<(text.size:Int))=false:=Zf;unfold rV;go_enter Tryz.func46,Tryz.ntmps46;go_wp2;have h3:=RTwo.start w #[.slice (some ⟨g,off,none⟩) L.length cap,.int .i64 ((i:Int)+1),.int .i64 en,.int .i64 0,.int .i64 0] #[.slice none 0 0,.int .i64 0,.int .i64 0,.int .i64 0,.int .i64 0];generalize(w.alloc (.cells #[.slice (some ⟨g,off,none⟩) L.length cap,.int .i64 ((i:Int)+1),.int .i64 en,.int .i64 0,.int .i64 0] 85)).alloc (.cells #[.slice none 0 0,.int .i64 0,.int .i64 0,.int .i64 0,.int .i64 0] 85)=w1 at h3⊢;have x1:=(h3.below.cell (p:=⟨g,off+i*3+1,none⟩) hg).trans d1;obtain⟨r0,r1,r2,r3,r4⟩:=row5 h3.r0;obtain⟨s0,s1,s2,s3,s4⟩:=row5 h3.r1;obtain⟨f0,f1,f2,f3,f4⟩:=frz5 h3.r1;have wm:IntKind.i64.wrap ((i:Int)+1 - 1)=i:=by rw[show(i:Int)+1 - 1=i by omega]; exact IntWalk.i64_in _ Zo
 have wi:IntKind.i64.wrap (i:Int)=i:=IntWalk.i64_in _ Zo;have e1:(i:Int)+1 - 1=i:=Zo;have H3:=Zh h3;clear h3 h2 d0 d1;go_region
 go_wp2;have n:=Yx w1 (w.heap.size+1) _ _ _ _ _ (.slice (some ⟨g,off,none⟩) L.length cap) (.int .i64 ((i:Int)+1)) (.int .i64 en) (.int .i64 0) (.int .i64 0) H3.out.r1;have k:=Yw w1 (w.heap.size+1) (.slice (some ⟨g,off,none⟩) L.length cap) (.int .i64 ((i:Int)+1)) (.int .i64 en) (.int .i64 0) (.int .i64 0);have hB:=below_drewN (H3.out.below.trans (k.below H3.out.below.size (fun i hi q=>by omega))) 1;exact bodyPost_ret (Yce rfl rfl n) rfl ⟨rfl,hB⟩
def NmOut (ao:Option Addr)(cap:Nat)(L:List Tk)(en:Nat)(w:World)(R:Rd ByteArray)(e:Ending)(w':World):Prop:=
 (∃r s,e= .returned (.tuple #[r,.string s])/\rOut ao cap L en R r/\∀x j,R= .ok x j->s=x)/\Below w.heap.size w w'
theorem YkE (ao:Option Addr)(cap:Nat)(L:List Tk)(en:Nat)(i a c:Int)(w:World)(hc:¬c=0):
 Calls Tryz.prog 46 #[rV ao cap L en i a c] w fun e w'=>e= .returned (.tuple #[rV ao cap L en i a c,.string ⟨#[]⟩])/\Below w.heap.size w w':=by
 have h2:=RTwo.start w (arR ao cap L en i a c) zR;have hF:=fun w=>YeC ao cap L en i a c 50 w hc;have b0:(c != 0)=true:=by simpa using hc
 unfold rV at hF⊢;unfold arR zR at h2;clear hc;go_enter Tryz.func46,Tryz.ntmps46;go_wp2_with fail;refine(hF _).mono ?_;rintro e w2 ⟨rfl,hb2⟩;have h4:=h2.next hb2;clear hF hb2 h2;obtain⟨s0,s1,s2,s3,s4⟩:=row5 h4.r1;obtain⟨f0,f1,f2,f3,f4⟩:=frz5 h4.r1;have H4:=Zh h4;clear h4;go_wp2;have n:=Yx w2 (w.heap.size+1) _ _ _ _ _ (.slice ao L.length cap) (.int .i64 i) (.int .i64 en) (.int .i64 a) (.int .i64 c) H4.out.r1;have k:=Yw w2 (w.heap.size+1) (.slice ao L.length cap) (.int .i64 i) (.int .i64 en) (.int .i64 a) (.int .i64 c);exact bodyPost_ret (Yce rfl rfl n) rfl ⟨rfl,H4.out.below.trans (k.below H4.out.below.size (fun i hi q=>by omega))⟩
theorem YkF (ao:Option Addr)(cap:Nat)(L:List Tk)(en i:Nat)(w:World)(hT:RTok ao L w)(hi:i<=L.length)(hL:L.length<=40000)(hsm:∀x∈L,x.text.size<=40000):
 Calls Tryz.prog 46 #[rV ao cap L en i 0 0] w (NmOut ao cap L en w (Yz L en i)):=by
 have h2:=RTwo.start w (arR ao cap L en i 0 0) zR;unfold arR zR at h2;have hF0:YQ (α:=ByteArray) L en i 50= .bad (Y6 L en i) (if i<L.length then 50 else 51):=by unfold YQ; simp
 by_cases hlt:i<L.length
 ·obtain⟨g,off,rfl,hg,d0,d1,d2⟩:=hT.tok hlt;have l0:decide ((i:Int)<(L.length:Int))=true:=Zt;have l1:decide (i<L.length)=true:=decide_eq_true hlt;have l2:decide ((L.length:Int)<=(i:Int))=false:=Zf;have l3:decide (L.length<=i)=false:=Zf;have hz:=hsm L[i] (List.getElem_mem hlt);have hNE:Yz L en i=if L[i].kind=3/\L[i].text.size<=40 then .ok L[i].text (i+1) else YQ L en i 50:=by unfold Yz; rw[List.getElem?_eq_getElem hlt]
  rw[hF0] at hNE;clear hF0 hsm;generalize L[i]=t at d0 d1 d2 hNE hz;obtain⟨kind,text,at_⟩:=t;dsimp only at d0 d1 d2 hNE hz;by_cases h3:kind=3
  ·subst h3;by_cases h40:text.size<=40
   ·have g1:decide ((40:Int)<(text.size:Int))=false:=Zf;have HR:Hid (Yz L en i= .ok text (i+1)):=Zh (by rw[hNE,if_pos ⟨rfl,h40⟩]);refine(Ymu g off cap L en i text w hlt hL hg d0 d1 h40).mono ?_;rintro e w' ⟨rfl,hb⟩;rw[HR.out];exact⟨⟨_,_,rfl,rfl,fun x j q=>by cases q; rfl⟩,hb⟩
   ·have g1:decide ((40:Int)<(text.size:Int))=true:=Zt;have hNB:=Zh (hNE.trans (if_neg (fun q=>h40 q.2)));generalize Yz L en i=R at hNB⊢;unfold rV;clear hNE;have hbad:Hid (R= .bad (Y6 L en i) (if i<L.length then 50 else 51)):=Zh (hNB.out);have HF:=Zh (fun W hb=>YaS (some ⟨g,off,none⟩) cap L en i 50 W (hT.below (w':=W) hb) hi hL);generalize(if i<L.length then (50:Int) else 51)=C at hbad HF;generalize Y6 L en i=H at hbad HF;unfold rV at HF;clear hT hNB;go_enter Tryz.func46,Tryz.ntmps46;go_wp2_with fail;refine(HF.out _ h2.below).mono ?_;rintro e w2 ⟨rfl,hb2⟩;have h4:=h2.next hb2;clear HF hb2 h2;obtain⟨s0,s1,s2,s3,s4⟩:=row5 h4.r1;obtain⟨f0,f1,f2,f3,f4⟩:=frz5 h4.r1;have H4:=Zh h4;clear h4;go_wp2;have n:=Yx w2 (w.heap.size+1) _ _ _ _ _ (.slice (some ⟨g,off,none⟩) L.length cap) (.int .i64 i) (.int .i64 en) (.int .i64 H) (.int .i64 C) H4.out.r1;have k:=Yw w2 (w.heap.size+1) (.slice (some ⟨g,off,none⟩) L.length cap) (.int .i64 i) (.int .i64 en) (.int .i64 H) (.int .i64 C);refine bodyPost_ret (Yce rfl rfl n) rfl ⟨⟨_,_,rfl,?_,?_⟩,H4.out.below.trans (k.below H4.out.below.size (fun i hi q=>by omega))⟩
    ·rw[hbad.out]; exact⟨_,rfl⟩
    ·intro x j q; rw[hbad.out] at q; cases q
  ·have b3:(kind != 3)=true:=by simpa using h3
   have hNB:=Zh (hNE.trans (if_neg (fun q=>h3 q.1)));generalize Yz L en i=R at hNB⊢;unfold rV;clear hNE h3;have hbad:Hid (R= .bad (Y6 L en i) (if i<L.length then 50 else 51)):=Zh (hNB.out);have HF:=Zh (fun W hb=>YaS (some ⟨g,off,none⟩) cap L en i 50 W (hT.below (w':=W) hb) hi hL);generalize(if i<L.length then (50:Int) else 51)=C at hbad HF;generalize Y6 L en i=H at hbad HF;unfold rV at HF;clear hT hNB;go_enter Tryz.func46,Tryz.ntmps46;go_wp2_with fail;refine(HF.out _ h2.below).mono ?_;rintro e w2 ⟨rfl,hb2⟩;have h4:=h2.next hb2;clear HF hb2 h2;obtain⟨s0,s1,s2,s3,s4⟩:=row5 h4.r1;obtain⟨f0,f1,f2,f3,f4⟩:=frz5 h4.r1;have H4:=Zh h4;clear h4;go_wp2;have n:=Yx w2 (w.heap.size+1) _ _ _ _ _ (.slice (some ⟨g,off,none⟩) L.length cap) (.int .i64 i) (.int .i64 en) (.int .i64 H) (.int .i64 C) H4.out.r1;have k:=Yw w2 (w.heap.size+1) (.slice (some ⟨g,off,none⟩) L.length cap) (.int .i64 i) (.int .i64 en) (.int .i64 H) (.int .i64 C);refine bodyPost_ret (Yce rfl rfl n) rfl ⟨⟨_,_,rfl,?_,?_⟩,H4.out.below.trans (k.below H4.out.below.size (fun i hi q=>by omega))⟩
   ·rw[hbad.out]; exact⟨_,rfl⟩
   ·intro x j q; rw[hbad.out] at q; cases q
 ·have l0:decide ((i:Int)<(L.length:Int))=false:=Zf;have l1:decide (i<L.length)=false:=decide_eq_false hlt;have l2:decide ((L.length:Int)<=(i:Int))=true:=Zt;have l3:decide (L.length<=i)=true:=Zt;have hNB:Hid (Yz L en i= .bad (Y6 L en i) (if i<L.length then 50 else 51)):=Zh (by rw[<-hF0]; unfold Yz; rw[List.getElem?_eq_none Zo]);generalize Yz L en i=R at hNB⊢;unfold rV;clear hF0;have hbad:Hid (R= .bad (Y6 L en i) (if i<L.length then 50 else 51)):=Zh (hNB.out);have HF:=Zh (fun W hb=>YaS ao cap L en i 50 W (hT.below (w':=W) hb) hi hL);generalize(if i<L.length then (50:Int) else 51)=C at hbad HF;generalize Y6 L en i=H at hbad HF;unfold rV at HF;clear hT hNB;go_enter Tryz.func46,Tryz.ntmps46;go_wp2_with fail;refine(HF.out _ h2.below).mono ?_;rintro e w2 ⟨rfl,hb2⟩;have h4:=h2.next hb2;clear HF hb2 h2;obtain⟨s0,s1,s2,s3,s4⟩:=row5 h4.r1;obtain⟨f0,f1,f2,f3,f4⟩:=frz5 h4.r1;have H4:=Zh h4;clear h4;go_wp2;have n:=Yx w2 (w.heap.size+1) _ _ _ _ _ (.slice ao L.length cap) (.int .i64 i) (.int .i64 en) (.int .i64 H) (.int .i64 C) H4.out.r1;have k:=Yw w2 (w.heap.size+1) (.slice ao L.length cap) (.int .i64 i) (.int .i64 en) (.int .i64 H) (.int .i64 C);refine bodyPost_ret (Yce rfl rfl n) rfl ⟨⟨_,_,rfl,?_,?_⟩,H4.out.below.trans (k.below H4.out.below.size (fun i hi q=>by omega))⟩
  ·rw[hbad.out]; exact⟨_,rfl⟩
  ·intro x j q; rw[hbad.out] at q; cases q
theorem YeS {L:List Tk}{i:Nat}{k:Int}{s:ByteArray}(h:isN L i k s=true):i<L.length:=by
 refine Nat.lt_of_not_le fun q=>?_;unfold isN at h;rw[List.getElem?_eq_none q] at h;cases h
theorem Ygq {L:List Tk}{en i:Nat}{s:ByteArray}{k:Nat}(h:Yz L en i= .ok s k):i<L.length:=by
 refine Nat.lt_of_not_le fun q=>?_;unfold Yz YQ at h;rw[List.getElem?_eq_none q] at h;cases h
theorem Jg {L:List Tk}{en:Nat}{pat:Bool}(hs:∀x∈L,x.text.size<=40000){K:Nat}(hK:40001<=K):∀(n deep i:Nat) (acc l:Ts) (j:Nat),i<=L.length->Yb L en pat n deep i acc= .ok l j->l.nodes+i*K<=acc.nodes+j*K/\j<=L.length
 |0,_,_,_,_,_,hi,h=>by cases h; exact⟨Nat.le_refl _,hi⟩
 |
  n+1,deep,i,acc,l,j,hi,h=>by
  have he:(i+1)*K=i*K+K:=by rw[Nat.add_mul,Nat.one_mul]
  unfold Yb at h;split at h
  ·cases h; exact⟨Nat.le_refl _,hi⟩
  ·rename_i t ht
   have hlt:i<L.length:=(List.getElem?_eq_some_iff.1 ht).1;have hts:t.text.size<=40000:=hs t (List.mem_of_getElem? ht);split at h
   ·have h1:=Jg hs hK n _ (i+1) _ _ _ hlt h;rw[Ts.nodes_app,show(YaI t.text).nodes=t.text.size from YbM _ _ _] at h1;omega
   ·split at h
    ·have h1:=Jg hs hK n _ (i+1) _ _ _ hlt h;rw[Ts.nodes_app] at h1; simp only[Ts.nodes] at h1; omega
    ·split at h
     ·have h1:=Jg hs hK n _ (i+1) _ _ _ hlt h;rw[Ts.nodes_app] at h1; simp only[Ts.nodes] at h1; omega
     ·split at h
      ·have h1:=Jg hs hK n _ (i+1) _ _ _ hlt h;rw[Ts.nodes_app,Yfk] at h1; omega
      ·split at h
       ·split at h
        ·cases h
        ·obtain⟨kids,j1,h1,h⟩:=Rd.bind_inv h;obtain⟨_,k,h2,h⟩:=Rd.bind_inv h;have e1:=Jg hs hK n _ (i+1) _ _ _ hlt h1;have e2:=YG h2;have e3:=YeS e2.1;have e4:=e2.2;have h1:=Jg hs hK n _ _ _ _ _ Zo h;rw[Ts.nodes_app] at h1; simp only[Ts.nodes] at h1 e1;have e5:k*K=j1*K+K:=by rw[e4,Nat.add_mul,Nat.one_mul]
         omega
       ·split at h
        ·split at h
         ·cases h
         ·split at h
          ·cases h
          ·obtain⟨nm,m,h0,h⟩:=Rd.bind_inv h;obtain⟨kids,j1,h1,h⟩:=Rd.bind_inv h;obtain⟨_,k,h2,h⟩:=Rd.bind_inv h;have e0:=JD h0;have e00:=Ygq h0;have e1:=Jg hs hK n _ _ _ _ _ Zo h1;have e2:=YG h2;have e3:=YeS e2.1;have e4:=e2.2;have h1:=Jg hs hK n _ _ _ _ _ Zo h;rw[Ts.nodes_app] at h1; simp only[Ts.nodes] at h1 e1;have e5:k*K=j1*K+K:=by rw[e4,Nat.add_mul,Nat.one_mul]
           have e6:m*K=i*K+K+K:=by rw[e0,Nat.add_mul,Nat.add_mul,Nat.one_mul]
           omega
        ·cases h; exact⟨Nat.le_refl _,hi⟩
theorem YdQ {L:List Tk}{en:Nat}{pat:Bool}(hs:∀x∈L,x.text.size<=40000)(n deep i:Nat)(acc l:Ts)(j:Nat)(hi:i<=L.length)(h:Yb L en pat n deep i acc= .ok l j):l.nodes+i*40001<=acc.nodes+j*40001/\j<=L.length:=Jg hs (Nat.le_refl _) n deep i acc l j hi h
structure RL (L:List Tk):Prop where
 len:L.length<=40000
 small:∀x∈L,x.text.size<=40000
 k6:∀x∈L,x.kind=6->x.text.size=1
 k7:∀x∈L,x.kind=7->¬x.text.size=1
theorem RL.no7 {L:List Tk}(h:RL L){s:ByteArray}(hs:s.size=1)(i:Nat):isN L i 7 s=false:=by
 unfold isN;split
 ·rfl
 ·rename_i t ht
  by_cases hk:t.kind=7
  ·have:=h.k7 t (List.mem_of_getElem? ht) hk;rw[decide_eq_false (fun q=>this (by rw[q,hs])),Bool.and_false]
  ·rw[show(t.kind==7)=false by simpa using hk,Bool.false_and]
theorem RL.no6 {L:List Tk}(h:RL L){s:ByteArray}(hs:¬s.size=1)(i:Nat):isN L i 6 s=false:=by
 unfold isN;split
 ·rfl
 ·rename_i t ht
  by_cases hk:t.kind=6
  ·have:=h.k6 t (List.mem_of_getElem? ht) hk;rw[decide_eq_false (fun q=>hs (by rw[<-q]; exact this)),Bool.and_false]
  ·rw[show(t.kind==6)=false by simpa using hk,Bool.false_and]
def StOk (L:List Tk){α:Type}(X:Rd α)(i a c:Int):Prop:=match X with
 |.ok _ j=>i=j/\a=0/\c=0/\j<=L.length
 |.bad A C=>a=A/\c=C/\¬C=0
def rSt (ao:Option Addr)(cap:Nat)(L:List Tk)(en:Nat){α:Type}(X:Rd α)(r:Value):Prop:=∃i a c:Int,r=rV ao cap L en i a c/\StOk L X i a c
def isX (L:List Tk){α:Type}(X:Rd α)(k:Int)(s:ByteArray):Bool:=match X with
 |.ok _ j=>isN L j k s
 |.bad _ _=>false
theorem Yln {L:List Tk}{α:Type}{X:Rd α}{k:Int}{s:ByteArray}(h:isX L X k s=true):∃x j,X= .ok x j/\isN L j k s=true:=by
 cases X with
 |ok x j=>exact⟨x,j,rfl,h⟩
 |bad=>cases h
theorem YaZ {ao:Option Addr}{cap:Nat}{L:List Tk}{en j:Nat}{α:Type}(x:α)(h:j<=L.length):rSt ao cap L en (.ok x j:Rd α) (rV ao cap L en j 0 0):=⟨j,0,0,rfl,rfl,rfl,rfl,h⟩
theorem YdC {ao:Option Addr}{cap:Nat}{L:List Tk}{en i:Nat}{α:Type}(x:α)(h:i<L.length):rSt ao cap L en (.ok x (i+1):Rd α) (rV ao cap L en ((i:Int)+1) 0 0):=⟨_,0,0,rfl,by simp,rfl,rfl,h⟩
theorem Ya6 {ao:Option Addr}{cap:Nat}{L:List Tk}{en:Nat}{α:Type}{A:Nat}{C:Int}(i:Int)(h:¬C=0):rSt ao cap L en (.bad A C:Rd α) (rV ao cap L en i A C):=⟨i,A,C,rfl,rfl,rfl,h⟩
def YeZ {α:Type}(L:List Tk)(en i:Nat)(code:Int):Rd α:=.bad (Y6 L en i) (if i<L.length then code else 51)
theorem Yde {α:Type}(L:List Tk)(en i:Nat)(code:Int)(h:¬code=5):(YQ L en i code:Rd α)=YeZ L en i code:=by
 unfold YQ YeZ;by_cases hi:i<L.length
 ·rw[if_pos (.inl hi),if_pos hi]
 ·rw[if_neg (fun q=>q.elim hi h),if_neg hi]
section
variable {ao:Option Addr}{cap:Nat}{L:List Tk}{en:Nat}{α:Type}{X:Rd α}{r:Value}{w:World}
theorem YaL (hL:RL L)(hX:rSt ao cap L en X r)(hT:RTok ao L w)(s:ByteArray)(hs:s.size=1):
 Calls Tryz.prog 45 #[r,.string s] w fun e w'=>e= .returned (.bool (isX L X 6 s))/\Below w.heap.size w w':=by
 obtain⟨i,a,c,rfl,h⟩:=hX;cases X with
 |
  ok x j=>
  obtain⟨rfl,rfl,rfl,hj⟩:=h;have:=YhW ao cap L en j s w hT hj hL.len;rw[hL.no7 hs,Bool.or_false] at this;exact this
 |
  bad A C=>
  obtain⟨rfl,rfl,hC⟩:=h;exact YhV ao cap L en i _ _ s w hC
theorem YkK (hL:RL L)(hX:rSt ao cap L en X r)(hT:RTok ao L w)(s:ByteArray)(hs:¬s.size=1):
 Calls Tryz.prog 45 #[r,.string s] w fun e w'=>e= .returned (.bool (isX L X 7 s))/\Below w.heap.size w w':=by
 obtain⟨i,a,c,rfl,h⟩:=hX;cases X with
 |
  ok x j=>
  obtain⟨rfl,rfl,rfl,hj⟩:=h;have:=YhW ao cap L en j s w hT hj hL.len;rw[hL.no6 hs,Bool.false_or] at this;exact this
 |
  bad A C=>
  obtain⟨rfl,rfl,hC⟩:=h;exact YhV ao cap L en i _ _ s w hC
theorem Yc4 (hL:RL L)(hX:rSt ao cap L en X r)(hT:RTok ao L w)(code:Int)(hc:¬code=0){β:Type}:
 Calls Tryz.prog 57 #[r,.int .i64 code] w fun e w'=>(∃r',e= .returned r'/\rSt ao cap L en (X.bind fun _ i=>(YeZ L en i code:Rd β)) r')/\Below w.heap.size w w':=by
 obtain⟨i,a,c,rfl,h⟩:=hX;cases X with
 |
  ok x j=>
  obtain⟨rfl,rfl,rfl,hj⟩:=h;refine(YaS ao cap L en j code w hT hj hL.len).mono ?_;rintro e w' ⟨rfl,hb⟩;exact⟨⟨_,rfl,Ya6 _ (by split<;>omega)⟩,hb⟩
 |
  bad A C=>
  obtain⟨rfl,rfl,hC⟩:=h;refine(YeC ao cap L en i _ _ code w hC).mono ?_;rintro e w' ⟨rfl,hb⟩;exact⟨⟨_,rfl,Ya6 _ hC⟩,hb⟩
theorem YkN {β:Type}{R:Rd β}{r:Value}(h:rOut ao cap L en R r)(h1:∀x j,R= .ok x j->j<=L.length)(h2:R.coded):rSt ao cap L en R r:=by
 cases R with
 |ok x j=>exact⟨j,0,0,h,rfl,rfl,rfl,h1 x j rfl⟩
 |bad A C=>obtain⟨i,rfl⟩:=h; exact Ya6 i (h2 A C rfl)
theorem Yat (hL:RL L)(hX:rSt ao cap L en X r)(hT:RTok ao L w)(s:ByteArray)(hs:s.size=1):
 Calls Tryz.prog 47 #[r,.string s] w fun e w'=>(∃r',e= .returned r'/\rSt ao cap L en (X.bind fun _ i=>Yh L en i s) r')/\Below w.heap.size w w':=by
 obtain⟨i,a,c,rfl,h⟩:=hX;cases X with
 |
  ok x j=>
  obtain⟨rfl,rfl,rfl,hj⟩:=h;refine(YkH ao cap L en j s w hT hj hL.len (hL.no7 hs j)).mono ?_;rintro e w' ⟨⟨r',rfl,h⟩,hb⟩;exact⟨⟨_,rfl,YkN h (fun x k q=>by have:=YG q; have:=YeS this.1; omega) Yar⟩,hb⟩
 |
  bad A C=>
  obtain⟨rfl,rfl,hC⟩:=h;refine(YkG ao cap L en i _ _ s w hC).mono ?_;rintro e w' ⟨rfl,hb⟩;exact⟨⟨_,rfl,Ya6 _ hC⟩,hb⟩
theorem Yd5 (hL:RL L)(hX:rSt ao cap L en X r)(hT:RTok ao L w):
 Calls Tryz.prog 46 #[r] w fun e w'=>(∃r' s,e= .returned (.tuple #[r',.string s])/\rSt ao cap L en (X.bind fun _ i=>Yz L en i) r'/\∀x j,(X.bind fun _ i=>Yz L en i)= .ok x j->s=x)/\Below w.heap.size w w':=by
 obtain⟨i,a,c,rfl,h⟩:=hX;cases X with
 |
  ok x j=>
  obtain⟨rfl,rfl,rfl,hj⟩:=h;refine(YkF ao cap L en j w hT hj hL.len hL.small).mono ?_;rintro e w' ⟨⟨r',s,rfl,h,h3⟩,hb⟩;exact⟨⟨_,_,rfl,YkN h (fun x k q=>by have:=JD q; have:=Ygq q; omega) Yct,h3⟩,hb⟩
 |
  bad A C=>
  obtain⟨rfl,rfl,hC⟩:=h;refine(YkE ao cap L en i _ _ w hC).mono ?_;rintro e w' ⟨rfl,hb⟩;exact⟨⟨_,_,rfl,Ya6 _ hC,fun x j q=>by cases q⟩,hb⟩
end
def zT:Array Value:=#[.int .i64 0,.string ⟨#[]⟩,.slice none 0 0]
def brkN (L:List Tk)(en:Nat)(pat:Bool)(n:Nat)(call:Bool)(d i:Nat):Rd (Int×ByteArray×Ts):=
 if call=true then (Yz L en (i+1)).bind fun nm m=>(Yb L en pat n d m .nil).bind fun kids j=>(Yh L en j Yeu).bind fun _ k=>.ok (8,nm,kids) k
 else (Yb L en pat n d (i+1) .nil).bind fun kids j=>(Yh L en j YcF).bind fun _ k=>.ok (4,⟨#[]⟩,kids) k
theorem YlH (k:IntKind)(x:Int)(s:ByteArray)(ao:Option Addr)(n cap:Nat):(#[.int k x,.string s,.slice ao n cap]:Array Value).all (·.oneCell')=true:=by simp[Value.oneCell']
def brkX (L:List Tk)(en:Nat)(pat:Bool)(n d:Nat)(X:Rd ByteArray)(kind:Int)(sign:ByteArray):Rd (Int×ByteArray×Ts):=
 X.bind fun nm m=>(Yb L en pat n d m .nil).bind fun kids j=>(Yh L en j sign).bind fun _ k=>.ok (kind,nm,kids) k
theorem YlL {L:List Tk}{en:Nat}{pat:Bool}{n d i:Nat}{X1:Rd ByteArray}{kind:Int}{sign s:ByteArray}{l:Ts}{R:Rd (Int×ByteArray×Ts)}(hR:brkX L en pat n d X1 kind sign=R)(hs:∀x m,X1= .ok x m->s=x)(hM:∀x m,X1= .ok x m->i<m/\m<=L.length)
 (hl:∀x j,(X1.bind fun _ i=>Yb L en pat n d i .nil)= .ok x j->l=x)(hn1:∀x m,X1= .ok x m->l.nodes<=(L.length+1 - m)*40001)(hn2:∀A C,X1= .bad A C->l= .nil){j a c:Int}
 (hst:StOk L ((X1.bind fun _ i=>Yb L en pat n d i .nil).bind fun _ i=>Yh L en i sign) j a c):StOk L R j a c/\(∀x k,R= .ok x k->x=(kind,s,l))/\l.nodes<=(L.length - i)*40001:=by
 subst hR;cases X1 with
 |
  bad A C=>
  rw[hn2 A C rfl];exact⟨hst,(fun x k q=>by cases q),by simp[Ts.nodes]⟩
 |
  ok nm m=>
  have h1:=hM nm m rfl;have h2:=hn1 nm m rfl;have h3:=hs nm m rfl;subst h3;unfold brkX;dsimp only[Rd.bind] at hl hst⊢;refine⟨?_,?_,Nat.le_trans h2 (Nat.mul_le_mul_right _ Zo)⟩
  ·cases hq:Yb L en pat n d m .nil with
   |bad A C=>rw[hq] at hst; exact hst
   |
    ok kids k=>
    rw[hq] at hst;dsimp only[Rd.bind] at hst⊢;cases hm:Yh L en k sign with
    |bad A C=>rw[hm] at hst; exact hst
    |ok u v=>rw[hm] at hst; exact hst
  ·intro x k hx;obtain⟨kids,q,h4,hx⟩:=Rd.bind_inv hx;obtain⟨u,v,h5,hx⟩:=Rd.bind_inv hx;cases hx;rw[hl kids q h4]
def YgC (ao:Option Addr)(cap:Nat)(L:List Tk)(en:Nat)(pat:Bool)(n d:Nat){α:Type}(X:Rd α)(w:World)(e:Ending)(w':World):Prop:=
 Below w.heap.size w w'/\∃r' v l,e= .returned (.tuple #[r',v])/\rSt ao cap L en (X.bind fun _ i=>Yb L en pat n d i .nil) r'/\TsV w' (fun k=>w.heap.size<=k) v l/\
  (∀x j,(X.bind fun _ i=>Yb L en pat n d i .nil)= .ok x j->l=x)/\(∀x m,X= .ok x m->l.nodes<=(L.length+1 - m)*40001)/\(∀A C,X= .bad A C->l= .nil)
def YoK (ao:Option Addr)(cap:Nat)(L:List Tk)(en:Nat)(i:Nat)(R:Rd (Int×ByteArray×Ts))(w:World)(e:Ending)(w':World):Prop:=
 Below w.heap.size w w'/\∃r' k t v kids,e= .returned (.tuple #[r',.agg #[.int .i64 k,.string t,v]])/\rSt ao cap L en R r'/\TsV w' (fun k=>w.heap.size<=k) v kids/\
  (∀x j,R= .ok x j->x=(k,t,kids))/\kids.nodes<=(L.length - i)*40001
theorem Yy {x0 x1 x2 x3 x4:Value}:(Tryz.prog.info? 85).map (·.size)=some (#[x0,x1,x2,x3,x4]:Array Value).size:=by
 show _=some 5;kernel_rfl
theorem YR (ao:Option Addr)(n cap:Nat)(i en a c:Int)(k:IntKind):(#[.slice ao n cap,.int k i,.int k en,.int k a,.int k c]:Array Value).all (·.oneCell')=true:=by simp[Value.oneCell']
theorem YlM {W:World}{b1 b2:Nat}{o1 o2:TypeId}{s0 s1 s2 s3 s4 u0 u1 u2:Value}(hne:¬b1=b2)(h1:W.heap[b1]? =some (.cells #[s0,s1,s2,s3,s4] o1 (0,0)))(h2:W.heap[b2]? =some (.cells #[u0,u1,u2] o2 (0,0)))(a b c d e f g h:Value):
 ((((((((W.setCell ⟨b1,0,none⟩ a).setCell ⟨b1,1,none⟩ b).setCell ⟨b1,2,none⟩ c).setCell ⟨b1,3,none⟩ d).setCell ⟨b1,4,none⟩ e).setCell ⟨b2,0,none⟩ f).setCell ⟨b2,1,none⟩ g).setCell ⟨b2,2,none⟩ h).heap[b1]? =some (.cells #[a,b,c,d,e] o1 (0,0))/\
 ((((((((W.setCell ⟨b1,0,none⟩ a).setCell ⟨b1,1,none⟩ b).setCell ⟨b1,2,none⟩ c).setCell ⟨b1,3,none⟩ d).setCell ⟨b1,4,none⟩ e).setCell ⟨b2,0,none⟩ f).setCell ⟨b2,1,none⟩ g).setCell ⟨b2,2,none⟩ h).heap[b2]? =some (.cells #[f,g,h] o2 (0,0))/\
 Keep (fun k=>k=b1\/k=b2) W ((((((((W.setCell ⟨b1,0,none⟩ a).setCell ⟨b1,1,none⟩ b).setCell ⟨b1,2,none⟩ c).setCell ⟨b1,3,none⟩ d).setCell ⟨b1,4,none⟩ e).setCell ⟨b2,0,none⟩ f).setCell ⟨b2,1,none⟩ g).setCell ⟨b2,2,none⟩ h):=by
 have n1:=Yx W b1 _ _ _ _ _ a b c d e h1;have k1:=Yw W b1 a b c d e;have n2:=(k1.block b2 (Zg h2).1 (fun q=>hne q.symm)).trans h2;generalize((((W.setCell ⟨b1,0,none⟩ a).setCell ⟨b1,1,none⟩ b).setCell ⟨b1,2,none⟩ c).setCell ⟨b1,3,none⟩ d).setCell ⟨b1,4,none⟩ e=V at n1 k1 n2⊢;have k2:=Ybf V b2 f g h;exact⟨(k2.block b1 (Zg n1).1 hne).trans n1,Ybg V b2 _ _ _ _ _ _ n2,(k1.mono (T:=fun k=>k=b1\/k=b2) (fun _ _ q=>.inl q)).trans k2 (fun _ _ q=>.inr q)⟩
theorem Yc8 {S:Nat->Prop}{w w':World}{n:Nat}(h:Below (w.drewN n).heap.size (w.drewN n) w'):Keep S w w':=(Keep.of_drewN w n).trans (Keep.of_below (S:=fun _=>False) h) (fun _ _ q=>q.elim)
theorem YaT {P:Program}{fn:Func}{p q:Tmp}{ty tz:TypeId}(h:fn.results=#[.cell p ty,.cell q tz]){tmps:Array Value}{w:World}{g g2:Nat}{t t2:TypeId}{cs cs2:Array Value}{d d2:TypeDesc}
 (hp:tmps[p]? =some (.pointer (some ⟨g,0,none⟩)))(hq:tmps[q]? =some (.pointer (some ⟨g2,0,none⟩)))(hg:w.heap[g]? =some (.cells cs t (0,0)))(hg2:w.heap[g2]? =some (.cells cs2 t2 (0,0)))
 (hu:P.underlying ty=some d)(hd:(match d with | .struct _ | .array _ _=>true | _=>false)=true)(hi:(P.info? ty).map (·.size)=some cs.size)
 (hu2:P.underlying tz=some d2)(hd2:(match d2 with | .struct _ | .array _ _=>true | _=>false)=true)(hi2:(P.info? tz).map (·.size)=some cs2.size):
 (results fn tmps).run P w= .ok (.tuple #[.agg cs,.agg cs2]) w:=by
 simp[results,h,hp,hq,asAddr,run_loadVar_row w g t ty cs (0,0) d hg hu hd hi,run_loadVar_row w g2 t2 tz cs2 (0,0) d2 hg2 hu2 hd2 hi2]
def BrkQ (L:List Tk)(b1 b2:Nat)(X:Rd Unit)(ao:Option Addr)(cap en:Nat)(T:Array Value)(W:World):Exit->Act->World->Prop
 |
  .normal,a',w'=>a'.tmps[6]? =some (.pointer (some ⟨b1,0,none⟩))/\a'.tmps[7]? =some (.pointer (some ⟨b2,0,none⟩))/\a'.defers=[]/\
  ∃i a c:Int,StOk L X i a c/\w'.heap[b1]? =some (.cells #[.slice ao L.length cap,.int .i64 i,.int .i64 en,.int .i64 a,.int .i64 c] 85 (0,0))/\w'.heap[b2]? =some (.cells T 223 (0,0))/\Keep (fun k=>k=b1\/k=b2) W w'
 |_,_,_=>False
theorem Yh0 (ao:Option Addr)(cap:Nat)(L:List Tk)(en:Nat)(pat:Bool)(n d i:Nat)(w:World)(hL:RL L)(hT:RTok ao L w)(hi:i<L.length)
 (HT:∀(X:Rd ByteArray) (r:Value) (W:World),rSt ao cap L en X r->RTok ao L W->(∀x m,X= .ok x m->i<m/\m<=L.length)->Calls Tryz.prog 140 #[r,.bool (!pat),.int .i64 d] W (YgC ao cap L en pat n d X W)):
 Calls Tryz.prog 195 #[rV ao cap L en i 0 0,.bool (!pat),.int .i64 d] w (YoK ao cap L en i (brkN L en pat n (isN L i 6 JL) d i) w):=by
 have HL:=Zh hL;have hI:=fun W hb=>YaL (w:=W) hL (YaZ (ao:=ao) (cap:=cap) (en:=en) (α:=Unit) () (Nat.le_of_lt hi)) (hT.below hb) JL rfl;have HTT:=Zh HT;have HI:=Zh hI;have HTK:=Zh hT;obtain⟨W0,hW0⟩:∃W0,W0=((((w.alloc (.cells (arR ao cap L en i 0 0) 85)).alloc (.cells zR 85)).alloc (.cells zT 223)).alloc (.cells #[.int .i64 4,.string ⟨#[]⟩,.slice none 0 0] 223)):=⟨_,rfl⟩;have hF:Fr w W0 [(arR ao cap L en i 0 0,85),(zR,85),(zT,223),(#[.int .i64 4,.string ⟨#[]⟩,.slice none 0 0],223)]:=by
  rw[hW0];exact((((Fr.start w).alloc Zs _ _).alloc Zs _ _).alloc Zs _ _).alloc Zs _ _
 clear hT HT hI hL;unfold arR zR zT at hW0 hF;have hIW:=HI.out W0 hF.below;unfold rV at hIW;have hX:isX L (Rd.ok () i) 6 JL=isN L i 6 JL:=rfl;rw[hX] at hIW;generalize isN L i 6 JL=call at hIW⊢;generalize hR:brkN L en pat n call d i=R;have HR:=Zh hR;clear hX HI hR;unfold rV;go_enter Tryz.func195,Tryz.ntmps195;go_wp2_with fail;rw[<-hW0];clear hW0;generalize e3:w.heap.size+1+1+1=b3;generalize e2:w.heap.size+1+1=b2;generalize e1:w.heap.size+1=b1;generalize e0:w.heap.size=b0;have n30:¬b3=b0:=Zo;have n03:¬b0=b3:=Zo;refine hIW.mono ?_;clear hIW;rintro e w1 ⟨rfl,hb1⟩;have F1:=hF.next hb1;clear hF hb1;obtain⟨r0,r1,r2,r3,r4⟩:=row5 (F1.at 0 e0 rfl);obtain⟨f0,f1,f2,f3,f4⟩:=frz5 (F1.at 0 e0 rfl);obtain⟨t0,t1,t2⟩:=row3 (F1.at 3 e3 rfl);obtain⟨g0,g1,g2⟩:=frz3 (F1.at 3 e3 rfl);have wi:IntKind.i64.wrap ((i:Int)+1)=i+1:=IntWalk.i64_in _ (by have:=HL.out.len; omega);have HF1:=Zh F1;clear F1;cases call with
 |
  true=>
  go_wp2_with fail;have F2:Fr w ((w1.setCell ⟨b3,0,none⟩ (.int .i64 8)).setCell ⟨b0,1,none⟩ (.int .i64 ((i:Int)+1))) [(#[.slice ao L.length cap,.int .i64 ((i:Int)+1),.int .i64 en,.int .i64 0,.int .i64 0],85),(#[.slice none 0 0,.int .i64 0,.int .i64 0,.int .i64 0,.int .i64 0],85),(#[.int .i64 0,.string ⟨#[]⟩,.slice none 0 0],223),(#[.int .i64 8,.string ⟨#[]⟩,.slice none 0 0],223)]:=(HF1.out.setCellAt 3 e3 0 (.int .i64 8) rfl).setCellAt 0 e0 1 (.int .i64 ((i:Int)+1)) rfl;generalize(w1.setCell ⟨b3,0,none⟩ (.int .i64 8)).setCell ⟨b0,1,none⟩ (.int .i64 ((i:Int)+1))=w2 at F2⊢;have hN:=Yd5 HL.out (YdC (ao:=ao) (cap:=cap) (en:=en) (α:=Unit) () hi) (HTK.out.below F2.below);unfold rV at hN;clear r0 r1 r2 r3 r4 f0 f1 f2 f3 f4 t0 t1 t2 g0 g1 g2;refine hN.mono ?_;clear hN;rintro e w3 ⟨⟨r',s,rfl,hX1,hs⟩,hb3⟩;obtain⟨j,a,c,rfl,hst⟩:=hX1;have HX1:Hid (rSt ao cap L en (Yz L en (i+1)) (rV ao cap L en j a c)):=Zh ⟨j,a,c,rfl,hst⟩;have HS:Hid (∀x m,Yz L en (i+1)= .ok x m->s=x):=Zh hs;have HF3:=Zh (F2.next hb3);have HM:Hid (∀x m,Yz L en (i+1)= .ok x m->i<m/\m<=L.length):=Zh (fun x m q=>by have:=JD q; have:=Ygq q; omega);clear hst hs hb3 F2;obtain⟨t0,t1,t2⟩:=row3 (HF3.out.at 3 e3 rfl);obtain⟨g0,g1,g2⟩:=frz3 (HF3.out.at 3 e3 rfl);unfold rV;go_wp2_with (
   refine wpList_store_row rfl 85 (.tmp 3) (.tmp 21) rfl b0 #[.slice ao L.length cap,.int .i64 j,.int .i64 en,.int .i64 a,.int .i64 c] rfl rfl 85 _ (HF3.out.at 0 e0 rfl) Yy rfl (YR _ _ _ _ _ _ _ _) ?_;have F':=HF3.out.setRowAt 0 e0 #[.slice ao L.length cap,.int .i64 j,.int .i64 en,.int .i64 a,.int .i64 c] rfl;have HKr:=Zh (Keep.of_setRow w3 b0 #[.slice ao L.length cap,.int .i64 j,.int .i64 en,.int .i64 a,.int .i64 c]);generalize World.setRow _ b0 #[.slice ao L.length cap,.int .i64 j,.int .i64 en,.int .i64 a,.int .i64 c]=w4 at F' HKr⊢;obtain⟨r0,r1,r2,r3,r4⟩:=row5 (F'.at 0 e0 rfl);obtain⟨f0,f1,f2,f3,f4⟩:=frz5 (F'.at 0 e0 rfl);obtain⟨t0,t1,t2⟩:=row3 (F'.at 3 e3 rfl);obtain⟨g0,g1,g2⟩:=frz3 (F'.at 3 e3 rfl);have HF4:=Zh F';clear F')
  have F5:Fr w (w4.setCell ⟨b3,1,none⟩ (.string s)) [(#[.slice ao L.length cap,.int .i64 j,.int .i64 en,.int .i64 a,.int .i64 c],85),(#[.slice none 0 0,.int .i64 0,.int .i64 0,.int .i64 0,.int .i64 0],85),(#[.int .i64 0,.string ⟨#[]⟩,.slice none 0 0],223),(#[.int .i64 8,.string s,.slice none 0 0],223)]:=HF4.out.setCellAt 3 e3 1 (.string s) rfl;generalize w4.setCell ⟨b3,1,none⟩ (.string s)=w5 at F5⊢;have HF5:=Zh F5;clear F5;have hTm:=HTT.out (Yz L en (i+1)) _ w5 HX1.out (HTK.out.below HF5.out.below) HM.out;unfold rV at hTm;refine hTm.mono ?_;clear hTm r0 r1 r2 r3 r4 f0 f1 f2 f3 f4 t0 t1 t2 g0 g1 g2;rintro e w6 ⟨hb6,r',v,l,rfl,hX2,hv,hl,hn1,hn2⟩;obtain⟨j2,a2,c2,rfl,hst2⟩:=hX2;have HX2:Hid (rSt ao cap L en _ (rV ao cap L en j2 a2 c2)):=Zh ⟨j2,a2,c2,rfl,hst2⟩;obtain⟨aov,capv,rfl⟩:=hv.form;have HV:=Zh (And.intro hv (And.intro hl (And.intro hn1 hn2)));have HF6:=Zh (HF5.out.next hb6);have HB6:=Zh hb6;clear hst2 hl hn1 hn2 hv hb6;obtain⟨t0,t1,t2⟩:=row3 (HF6.out.at 3 e3 rfl);obtain⟨g0,g1,g2⟩:=frz3 (HF6.out.at 3 e3 rfl);unfold rV;go_wp2_with (
   refine wpList_store_row rfl 85 (.tmp 3) (.tmp 33) rfl b0 #[.slice ao L.length cap,.int .i64 j2,.int .i64 en,.int .i64 a2,.int .i64 c2] rfl rfl 85 _ (HF6.out.at 0 e0 rfl) Yy rfl (YR _ _ _ _ _ _ _ _) ?_;have F':=HF6.out.setRowAt 0 e0 #[.slice ao L.length cap,.int .i64 j2,.int .i64 en,.int .i64 a2,.int .i64 c2] rfl;have HKr:=Zh (Keep.of_setRow w6 b0 #[.slice ao L.length cap,.int .i64 j2,.int .i64 en,.int .i64 a2,.int .i64 c2]);generalize World.setRow _ b0 #[.slice ao L.length cap,.int .i64 j2,.int .i64 en,.int .i64 a2,.int .i64 c2]=w7 at F' HKr⊢;obtain⟨r0,r1,r2,r3,r4⟩:=row5 (F'.at 0 e0 rfl);obtain⟨f0,f1,f2,f3,f4⟩:=frz5 (F'.at 0 e0 rfl);obtain⟨t0,t1,t2⟩:=row3 (F'.at 3 e3 rfl);obtain⟨g0,g1,g2⟩:=frz3 (F'.at 3 e3 rfl);have HF7:=Zh F';clear F')
  have F8:Fr w (w7.setCell ⟨b3,2,none⟩ (.slice aov l.len capv)) [(#[.slice ao L.length cap,.int .i64 j2,.int .i64 en,.int .i64 a2,.int .i64 c2],85),(#[.slice none 0 0,.int .i64 0,.int .i64 0,.int .i64 0,.int .i64 0],85),(#[.int .i64 0,.string ⟨#[]⟩,.slice none 0 0],223),(#[.int .i64 8,.string s,.slice aov l.len capv],223)]:=HF7.out.setCellAt 3 e3 2 (.slice aov l.len capv) rfl;have HK8:=Zh ((HKr.out.mono (T:=fun k=>k=b0\/k=b3) (fun _ _ q=>.inl q)).trans (Keep.of_setCell w7 ⟨b3,2,none⟩ (.slice aov l.len capv)) (fun _ _ q=>.inr q));generalize w7.setCell ⟨b3,2,none⟩ (.slice aov l.len capv)=w8 at F8 HK8⊢;have hMs:=fun W (hb:Below w8.heap.size w8 W)=>Yat HL.out HX2.out (HTK.out.below (F8.below.trans (hb.mono F8.below.size))) Yeu rfl;unfold rV at hMs;have HMs:=Zh hMs;have l3:b3<w8.heap.size:=(Zg (F8.at 3 e3 rfl)).1;have l2:b2<w8.heap.size:=(Zg (F8.at 2 e2 rfl)).1;have l1:b1<w8.heap.size:=(Zg (F8.at 1 e1 rfl)).1;obtain⟨r0,r1,r2,r3,r4⟩:=row5 (F8.at 0 e0 rfl);obtain⟨t0,t1,t2⟩:=row3 (F8.at 3 e3 rfl);obtain⟨z0,z1,z2,z3,z4⟩:=row5 (F8.at 1 e1 rfl);obtain⟨u0,u1,u2⟩:=row3 (F8.at 2 e2 rfl);obtain⟨x0,x1,x2,x3,x4⟩:=frz5 (F8.at 1 e1 rfl);obtain⟨y0,y1,y2⟩:=frz3 (F8.at 2 e2 rfl);have HF8:=Zh F8;clear hMs F8 g0 g1 g2 f3 f4;generalize hX2e:(Rd.bind (Yz L en (i+1)) fun _ i=>Yb L en pat n d i .nil)=X2 at HX2 HMs;have HX2e:=Zh hX2e;clear hX2e;refine Code.wp_mono (Q:=BrkQ L b1 b2 (X2.bind fun _ i=>Yh L en i Yeu) ao cap en #[.int .i64 8,.string s,.slice aov l.len capv] w8) ?m ?r
  case r=>
   go_region_with ((go_at_call 47; refine(HMs.out _ (by first | exact Below.refl _ _ | exact below_drewN (Below.refl _ _) _ | exact below_drewN (Below.refl _ _) 1)).mono ?_; rintro e w9 ⟨⟨r3,rfl,⟨j3,a3,c3,rfl,hst3⟩⟩,hb9⟩; unfold rV; dsimp only; obtain⟨t0,t1,t2⟩:=row3 ((hb9.block b3 l3).trans (HF8.out.at 3 e3 rfl)); obtain⟨z0,z1,z2,z3,z4⟩:=row5 ((hb9.block b1 l1).trans (HF8.out.at 1 e1 rfl)); obtain⟨u0,u1,u2⟩:=row3 ((hb9.block b2 l2).trans (HF8.out.at 2 e2 rfl)); obtain⟨x0,x1,x2,x3,x4⟩:=frz5 ((hb9.block b1 l1).trans (HF8.out.at 1 e1 rfl)); obtain⟨y0,y1,y2⟩:=frz3 ((hb9.block b2 l2).trans (HF8.out.at 2 e2 rfl))))
   all_goals
    obtain⟨q1,q2,q3⟩:=YlM (by omega:¬b1=b2) ((hb9.block b1 l1).trans (HF8.out.at 1 e1 rfl)) ((hb9.block b2 l2).trans (HF8.out.at 2 e2 rfl)) (.slice ao L.length cap) (.int .i64 j3) (.int .i64 en) (.int .i64 a3) (.int .i64 c3) (.int .i64 8) (.string s) (.slice aov l.len capv);exact⟨rfl,rfl,rfl,j3,a3,c3,hst3,q1,q2,(Yc8 hb9).trans q3 (fun _ _ q=>q)⟩
  case m=>
   intro e a' w' hq;cases e with
   |
    normal=>
    obtain⟨p1,p2,p3,j3,a3,c3,hst3,q1,q2,q3⟩:=hq;clear r0 r1 r2 r3 r4 t0 t1 t2 z0 z1 z2 z3 z4 u0 u1 u2 x0 x1 x2 x3 x4 y0 y1 y2;go_wp2;refine bodyPost_ret (YaT rfl p1 p2 q1 q2 Tryz.underlying85 rfl Yy Tryz.underlying223 rfl Ybe) p3 ?_;have hlt5:b3<w5.heap.size:=(Zg (HF5.out.at 3 e3 rfl)).1;obtain⟨hv,hl,hn1,hn2⟩:=HV.out;rw[<-HX2e.out] at hst3;obtain⟨z1,z2,z3⟩:=YlL (show brkX L en pat n d (Yz L en (i+1)) 8 Yeu=R from HR.out) HS.out HM.out hl hn1 hn2 hst3;refine⟨HF8.out.below.trans (q3.below HF8.out.below.size (fun k hk q=>by omega)),_,_,_,_,l,rfl,⟨_,_,_,rfl,z1⟩,?_,z2,z3⟩;exact(hv.keep (fun k q hk=>HK8.out.block k hk (fun e=>by omega)) (fun k q hk=>(show w5.heap.size<=k/\k<w8.heap.size from⟨q,Nat.lt_of_lt_of_le hk HK8.out.size⟩))).keep (fun k q hk=>q3.block k hk (fun e=>by omega)) (fun k q hk=>by omega)
   |_=>exact hq.elim
 |
  false=>
  go_wp2_with fail;have F5:Fr w (w1.setCell ⟨b0,1,none⟩ (.int .i64 ((i:Int)+1))) [(#[.slice ao L.length cap,.int .i64 ((i:Int)+1),.int .i64 en,.int .i64 0,.int .i64 0],85),(#[.slice none 0 0,.int .i64 0,.int .i64 0,.int .i64 0,.int .i64 0],85),(#[.int .i64 0,.string ⟨#[]⟩,.slice none 0 0],223),(#[.int .i64 4,.string ⟨#[]⟩,.slice none 0 0],223)]:=HF1.out.setCellAt 0 e0 1 (.int .i64 ((i:Int)+1)) rfl;generalize w1.setCell ⟨b0,1,none⟩ (.int .i64 ((i:Int)+1))=w5 at F5⊢;have HX1:Hid (rSt ao cap L en (Rd.ok ⟨#[]⟩ (i+1):Rd ByteArray) (rV ao cap L en ((i:Int)+1) 0 0)):=Zh (YdC _ hi);have HS:Hid (∀x m,(Rd.ok ⟨#[]⟩ (i+1):Rd ByteArray)= .ok x m->(⟨#[]⟩:ByteArray)=x):=Zh (fun x m q=>by cases q; rfl);have HM:Hid (∀x m,(Rd.ok ⟨#[]⟩ (i+1):Rd ByteArray)= .ok x m->i<m/\m<=L.length):=Zh (fun x m q=>by cases q; omega);have HF5:=Zh F5;clear F5;have hTm:=HTT.out (Rd.ok ⟨#[]⟩ (i+1):Rd ByteArray) _ w5 HX1.out (HTK.out.below HF5.out.below) HM.out;unfold rV at hTm;refine hTm.mono ?_;clear hTm r0 r1 r2 r3 r4 f0 f1 f2 f3 f4 t0 t1 t2 g0 g1 g2;rintro e w6 ⟨hb6,r',v,l,rfl,hX2,hv,hl,hn1,hn2⟩;obtain⟨j2,a2,c2,rfl,hst2⟩:=hX2;have HX2:Hid (rSt ao cap L en _ (rV ao cap L en j2 a2 c2)):=Zh ⟨j2,a2,c2,rfl,hst2⟩;obtain⟨aov,capv,rfl⟩:=hv.form;have HV:=Zh (And.intro hv (And.intro hl (And.intro hn1 hn2)));have HF6:=Zh (HF5.out.next hb6);have HB6:=Zh hb6;clear hst2 hl hn1 hn2 hv hb6;obtain⟨t0,t1,t2⟩:=row3 (HF6.out.at 3 e3 rfl);obtain⟨g0,g1,g2⟩:=frz3 (HF6.out.at 3 e3 rfl);unfold rV;go_wp2_with (
   refine wpList_store_row rfl 85 (.tmp 3) (.tmp 33) rfl b0 #[.slice ao L.length cap,.int .i64 j2,.int .i64 en,.int .i64 a2,.int .i64 c2] rfl rfl 85 _ (HF6.out.at 0 e0 rfl) Yy rfl (YR _ _ _ _ _ _ _ _) ?_;have F':=HF6.out.setRowAt 0 e0 #[.slice ao L.length cap,.int .i64 j2,.int .i64 en,.int .i64 a2,.int .i64 c2] rfl;have HKr:=Zh (Keep.of_setRow w6 b0 #[.slice ao L.length cap,.int .i64 j2,.int .i64 en,.int .i64 a2,.int .i64 c2]);generalize World.setRow _ b0 #[.slice ao L.length cap,.int .i64 j2,.int .i64 en,.int .i64 a2,.int .i64 c2]=w7 at F' HKr⊢;obtain⟨r0,r1,r2,r3,r4⟩:=row5 (F'.at 0 e0 rfl);obtain⟨f0,f1,f2,f3,f4⟩:=frz5 (F'.at 0 e0 rfl);obtain⟨t0,t1,t2⟩:=row3 (F'.at 3 e3 rfl);obtain⟨g0,g1,g2⟩:=frz3 (F'.at 3 e3 rfl);have HF7:=Zh F';clear F')
  have F8:Fr w (w7.setCell ⟨b3,2,none⟩ (.slice aov l.len capv)) [(#[.slice ao L.length cap,.int .i64 j2,.int .i64 en,.int .i64 a2,.int .i64 c2],85),(#[.slice none 0 0,.int .i64 0,.int .i64 0,.int .i64 0,.int .i64 0],85),(#[.int .i64 0,.string ⟨#[]⟩,.slice none 0 0],223),(#[.int .i64 4,.string ⟨#[]⟩,.slice aov l.len capv],223)]:=HF7.out.setCellAt 3 e3 2 (.slice aov l.len capv) rfl;have HK8:=Zh ((HKr.out.mono (T:=fun k=>k=b0\/k=b3) (fun _ _ q=>.inl q)).trans (Keep.of_setCell w7 ⟨b3,2,none⟩ (.slice aov l.len capv)) (fun _ _ q=>.inr q));generalize w7.setCell ⟨b3,2,none⟩ (.slice aov l.len capv)=w8 at F8 HK8⊢;have hMs:=fun W (hb:Below w8.heap.size w8 W)=>Yat HL.out HX2.out (HTK.out.below (F8.below.trans (hb.mono F8.below.size))) YcF rfl;unfold rV at hMs;have HMs:=Zh hMs;have l3:b3<w8.heap.size:=(Zg (F8.at 3 e3 rfl)).1;have l2:b2<w8.heap.size:=(Zg (F8.at 2 e2 rfl)).1;have l1:b1<w8.heap.size:=(Zg (F8.at 1 e1 rfl)).1;obtain⟨r0,r1,r2,r3,r4⟩:=row5 (F8.at 0 e0 rfl);obtain⟨t0,t1,t2⟩:=row3 (F8.at 3 e3 rfl);obtain⟨z0,z1,z2,z3,z4⟩:=row5 (F8.at 1 e1 rfl);obtain⟨u0,u1,u2⟩:=row3 (F8.at 2 e2 rfl);obtain⟨x0,x1,x2,x3,x4⟩:=frz5 (F8.at 1 e1 rfl);obtain⟨y0,y1,y2⟩:=frz3 (F8.at 2 e2 rfl);have HF8:=Zh F8;clear hMs F8 g0 g1 g2 f3 f4;generalize hX2e:(Rd.bind (Rd.ok ⟨#[]⟩ (i+1):Rd ByteArray) fun _ i=>Yb L en pat n d i .nil)=X2 at HX2 HMs;have HX2e:=Zh hX2e;clear hX2e;refine Code.wp_mono (Q:=BrkQ L b1 b2 (X2.bind fun _ i=>Yh L en i YcF) ao cap en #[.int .i64 4,.string ⟨#[]⟩,.slice aov l.len capv] w8) ?m ?r
  case r=>
   go_region_with ((go_at_call 47; refine(HMs.out _ (by first | exact Below.refl _ _ | exact below_drewN (Below.refl _ _) _ | exact below_drewN (Below.refl _ _) 1)).mono ?_; rintro e w9 ⟨⟨r3,rfl,⟨j3,a3,c3,rfl,hst3⟩⟩,hb9⟩; unfold rV; dsimp only; obtain⟨t0,t1,t2⟩:=row3 ((hb9.block b3 l3).trans (HF8.out.at 3 e3 rfl)); obtain⟨z0,z1,z2,z3,z4⟩:=row5 ((hb9.block b1 l1).trans (HF8.out.at 1 e1 rfl)); obtain⟨u0,u1,u2⟩:=row3 ((hb9.block b2 l2).trans (HF8.out.at 2 e2 rfl)); obtain⟨x0,x1,x2,x3,x4⟩:=frz5 ((hb9.block b1 l1).trans (HF8.out.at 1 e1 rfl)); obtain⟨y0,y1,y2⟩:=frz3 ((hb9.block b2 l2).trans (HF8.out.at 2 e2 rfl))))
   all_goals
    obtain⟨q1,q2,q3⟩:=YlM (by omega:¬b1=b2) ((hb9.block b1 l1).trans (HF8.out.at 1 e1 rfl)) ((hb9.block b2 l2).trans (HF8.out.at 2 e2 rfl)) (.slice ao L.length cap) (.int .i64 j3) (.int .i64 en) (.int .i64 a3) (.int .i64 c3) (.int .i64 4) (.string ⟨#[]⟩) (.slice aov l.len capv);exact⟨rfl,rfl,rfl,j3,a3,c3,hst3,q1,q2,(Yc8 hb9).trans q3 (fun _ _ q=>q)⟩
  case m=>
   intro e a' w' hq;cases e with
   |
    normal=>
    obtain⟨p1,p2,p3,j3,a3,c3,hst3,q1,q2,q3⟩:=hq;clear r0 r1 r2 r3 r4 t0 t1 t2 z0 z1 z2 z3 z4 u0 u1 u2 x0 x1 x2 x3 x4 y0 y1 y2;go_wp2;refine bodyPost_ret (YaT rfl p1 p2 q1 q2 Tryz.underlying85 rfl Yy Tryz.underlying223 rfl Ybe) p3 ?_;have hlt5:b3<w5.heap.size:=(Zg (HF5.out.at 3 e3 rfl)).1;obtain⟨hv,hl,hn1,hn2⟩:=HV.out;rw[<-HX2e.out] at hst3;obtain⟨z1,z2,z3⟩:=YlL (show brkX L en pat n d (Rd.ok ⟨#[]⟩ (i+1):Rd ByteArray) 4 YcF=R from HR.out) HS.out HM.out hl hn1 hn2 hst3;refine⟨HF8.out.below.trans (q3.below HF8.out.below.size (fun k hk q=>by omega)),_,_,_,_,l,rfl,⟨_,_,_,rfl,z1⟩,?_,z2,z3⟩;exact(hv.keep (fun k q hk=>HK8.out.block k hk (fun e=>by omega)) (fun k q hk=>(show w5.heap.size<=k/\k<w8.heap.size from⟨q,Nat.lt_of_lt_of_le hk HK8.out.size⟩))).keep (fun k q hk=>q3.block k hk (fun e=>by omega)) (fun k q hk=>by omega)
   |_=>exact hq.elim
theorem OwnR.empty {W:World}{B g:Nat}{e:TypeId}{size:Nat}{F:World->(Nat->Prop)->List Value->Prop}(h:W.heap[g]? =some (.cells #[] e (0,0)))(hB:B<=g)(hF:∀S,F W S []):OwnR W B e size (.slice (some ⟨g,0,none⟩) 0 0) 0 F:=
 ⟨[],⟨by simp,.inr ⟨g,0,#[],rfl,hB,h,by simp[maxLen]⟩⟩,hF _⟩
theorem YhN {s:ByteArray}{k:Int}(h:Ju s=true)(hk:J0 (bt s 0)=k):Ending.returned (.tuple #[.agg #[.int .i64 k,.string (s.extract 2 s.size),.slice none 0 0],.bool true])= .returned (.tuple #[varV s,.bool (Y2 s)]):=by
 rw[<-Yb8,h];unfold varV;rw[<-Yb8,if_pos h,hk]
theorem Yd1 {s:ByteArray}(h:Ju s=false):Ending.returned (.tuple #[.agg #[.int .i64 0,.string ⟨#[]⟩,.slice none 0 0],.bool false])= .returned (.tuple #[varV s,.bool (Y2 s)]):=by
 rw[<-Yb8,h];unfold varV;rw[<-Yb8,h,if_neg Zd]
theorem Ymv (s:ByteArray)(w:World)(hs:s.size<=1000000):
 Calls Tryz.prog 194 #[.string s] w fun e w'=>e= .returned (.tuple #[varV s,.bool (Y2 s)])/\Below w.heap.size w w':=by
 by_cases h3:3<=s.size
 ·have g3:decide ((s.size:Int)<3)=false:=Zf;have hlt:0<s.size:=Zo;have hlt1:1<s.size:=Zo;have l0:decide (0<s.size)=true:=decide_eq_true hlt;have l1:decide (1<s.size)=true:=decide_eq_true hlt1;have c2:(2:Int)<=s.size:=Zo;have hV:=fun w=>YfF (s.extract 2 s.size) w (by rw[ext_size]; omega);by_cases h46:((s[1]'hlt1).toNat:Int)=46
  ·have HR:Hid (Ju s=(J6 (s.extract 2 s.size)&&steB ((s[0]'hlt).toNat:Int))):=Zh (by unfold Ju; rw[decide_eq_true h3,<-Yq hlt1,h46,<-Yq hlt]; rfl);cases hv:J6 (s.extract 2 s.size) with
   |
    false=>
    rw[hv] at hV HR;clear hv;go_enter Tryz.func194,Tryz.ntmps194;go_wp2_with (go_at_call 228; refine(hV _).mono ?_; rintro e w' ⟨rfl,rfl⟩);refine bodyPost_ret (Ya rfl _ _ w.heap.size 223 _ (0,0) _ (.bool false) rfl rfl (heap_alloc_new w _) Tryz.underlying223 rfl Jj) rfl ⟨Yd1 HR.out,below_alloc1 w _⟩
   |
    true=>
    rw[hv] at hV HR;clear hv;by_cases e115:((s[0]'hlt).toNat:Int)=115
    ·have HQ:Hid (Ju s=true):=Zh (by rw[HR.out,e115]; rfl);have HK:Hid (J0 (bt s 0)=5):=Zh (by rw[<-Yq hlt,e115]; rfl);go_enter Tryz.func194,Tryz.ntmps194;go_wp2_with (go_at_call 228; refine(hV _).mono ?_; rintro e w' ⟨rfl,rfl⟩);refine bodyPost_ret (Ya rfl _ _ w.heap.size 223 _ (0,0) _ (.bool true) rfl rfl (heap_alloc_new w _) Tryz.underlying223 rfl Jj) rfl ⟨YhN HQ.out HK.out,below_alloc1 w _⟩
    ·by_cases e116:((s[0]'hlt).toNat:Int)=116
     ·have HQ:Hid (Ju s=true):=Zh (by rw[HR.out,e116]; rfl);have HK:Hid (J0 (bt s 0)=6):=Zh (by rw[<-Yq hlt,e116]; rfl);go_enter Tryz.func194,Tryz.ntmps194;go_wp2_with (go_at_call 228; refine(hV _).mono ?_; rintro e w' ⟨rfl,rfl⟩);refine bodyPost_ret (Ya rfl _ _ w.heap.size 223 _ (0,0) _ (.bool true) rfl rfl (heap_alloc_new w _) Tryz.underlying223 rfl Jj) rfl ⟨YhN HQ.out HK.out,below_alloc1 w _⟩
     ·by_cases e101:((s[0]'hlt).toNat:Int)=101
      ·have HQ:Hid (Ju s=true):=Zh (by rw[HR.out,e101]; rfl);have HK:Hid (J0 (bt s 0)=7):=Zh (by rw[<-Yq hlt,e101]; rfl);go_enter Tryz.func194,Tryz.ntmps194;go_wp2_with (go_at_call 228; refine(hV _).mono ?_; rintro e w' ⟨rfl,rfl⟩);refine bodyPost_ret (Ya rfl _ _ w.heap.size 223 _ (0,0) _ (.bool true) rfl rfl (heap_alloc_new w _) Tryz.underlying223 rfl Jj) rfl ⟨YhN HQ.out HK.out,below_alloc1 w _⟩
      ·have b1:(((s[0]'hlt).toNat:Int)==115)=false:=by simpa using e115
       have b2:(((s[0]'hlt).toNat:Int)==116)=false:=by simpa using e116
       have b3:(((s[0]'hlt).toNat:Int)==101)=false:=by simpa using e101
       have HQ:Hid (Ju s=false):=Zh (by rw[HR.out]; unfold steB; rw[b1,b2,b3]; rfl);go_enter Tryz.func194,Tryz.ntmps194;go_wp2_with (go_at_call 228; refine(hV _).mono ?_; rintro e w' ⟨rfl,rfl⟩);refine bodyPost_ret (Ya rfl _ _ w.heap.size 223 _ (0,0) _ (.bool false) rfl rfl (heap_alloc_new w _) Tryz.underlying223 rfl Jj) rfl ⟨Yd1 HQ.out,below_alloc1 w _⟩
  ·have HR:Hid (Ju s=false):=Zh (by unfold Ju; rw[<-Yq hlt1,show(((s[1]'hlt1).toNat:Int)==46)=false by simpa using h46]; simp);have b46:(((s[1]'hlt1).toNat:Int) != 46)=true:=by simpa using h46
   go_enter Tryz.func194,Tryz.ntmps194;go_wp2_with (go_at_call 228; refine(hV _).mono ?_; rintro e w' ⟨rfl,rfl⟩);refine bodyPost_ret (Ya rfl _ _ w.heap.size 223 _ (0,0) _ (.bool false) rfl rfl (heap_alloc_new w _) Tryz.underlying223 rfl Jj) rfl ⟨Yd1 HR.out,below_alloc1 w _⟩
 ·have g3:decide ((s.size:Int)<3)=true:=Zt;have HR:Hid (Ju s=false):=Zh (by unfold Ju; rw[decide_eq_false h3]; rfl);go_enter Tryz.func194,Tryz.ntmps194;go_wp2;refine bodyPost_ret (Ya rfl _ _ w.heap.size 223 _ (0,0) _ (.bool false) rfl rfl (heap_alloc_new w _) Tryz.underlying223 rfl Jj) rfl ⟨Yd1 HR.out,below_alloc1 w _⟩
theorem Yjr (s:ByteArray)(w:World)(hs:s.size<=40000):
 Calls Tryz.prog 193 #[.string s] w fun e w'=>∃v,e= .returned v/\TsV w' (fun k=>w.heap.size<=k) v (YaI s)/\Below w.heap.size w w':=by
 go_enter Tryz.func193,Tryz.ntmps193;go_wp2;go_loopw [3,4] (fun v i wr=>∃k:Nat,k<=s.size/\i= .int .i64 k/\Hid (OwnR wr w.heap.size 223 3 v (YA s k 0).len (tsF (YA s k 0)))/\Hid (Below w.heap.size w wr)) (fun _ i _=>s.size - (intOf i).toNat)
 case atStart=>exact⟨0,Nat.zero_le _,rfl,Zh (OwnR.empty (heap_alloc_new w _) (Nat.le_refl _) (fun _=>rfl)),Zh (below_alloc1 w _)⟩
 case round=>
  obtain⟨k,hk,rfl,HO,HB⟩:=hrel;by_cases hlt:k<s.size
  ·have l0:decide (k<s.size)=true:=decide_eq_true hlt;have a0:(0:Int)<=(k:Int)+1:=Zo;have a1:(k:Int)+1<=s.size:=Zo;have a2:(0:Int)<=k:=Zo;have a3:((k:Int)+1).toNat=k+1:=Zo;have hz:(YA s k 0).len=k:=Ych _ _ _;have HZ:=Zh hz;clear hz;go_wp2_with (at_builtin; refine Yn rfl _ _ 35 rfl w.heap.size 223 3 48 J4 _ _ rfl (HO.out.below (Yd _) (below_alloc1 wr _)) (Yd _) (Yd (oneT 1 (s.extract k (k+1)) .nil)) (J1 _ _) (some ⟨wr.heap.size,0,none⟩) 1 1 [.int .i64 1,.string (s.extract k (k+1)),.slice none 0 0] rfl (Ts.flat_single _ _ (TsV.nil _ _)) rfl (fun _=>⟨_,0,rfl,YbW _ _ _ _ _⟩) (by simp[Value.oneCell']) (by rw[HZ.out]; omega) Zo (by have:=HB.out.size; simp; omega) ?_; intro v1 w1 hO1 hK1 hat1; have HO1:Hid (OwnR w1 w.heap.size 223 3 v1 (YA s (k+1) 0).len (tsF (YA s (k+1) 0))):=Zh (by rw[YdM,Ts.len_app,Nat.zero_add]; exact hO1); have HB1:Hid (Below w.heap.size w w1):=Zh ((HB.out.alloc HB.out.size _).trans (hK1.below (by have:=HB.out.size; simp; omega) (fun i hi q=>by have:=(HO.out.own_lt _ q).1; omega))); clear hO1 hK1 hat1);go_roundw
   case rel=>exact⟨k+1,by omega,by go_num,HO1,HB1⟩
   case measure=>simp[intOf]; omega
  ·have l0:decide (k<s.size)=false:=Zf;obtain rfl:k=s.size:=Zo;go_wp2;go_ret;exact⟨_,rfl,HO.out.tsV,HB.out⟩
def Yjt:Rd Md->Rd Md
 |.bad a c=>.bad a c
 |.ok m j=>if m.externs.length=0 then .ok m j else .bad 0 1
def Yh4 (s:ByteArray):Rd Md:=Yjt (readB s)
def Yir (w:World)(R:Rd Md)(e:Ending)(w':World):Prop:=Below w.heap.size w w'/\match R with
 |.ok m _=>∃vf,e= .returned (.tuple #[.agg #[vf],.int .i64 0,.int .i64 0])/\Yab w' (fun k=>w.heap.size<=k) vf m.funcs
 |.bad a c=>e= .returned (.tuple #[.agg #[.slice none 0 0],.int .i64 a,.int .i64 c])
theorem Yb4 {tmps:Array Value}{g:Nat}{V:World}{x u v:Value}(t2:tmps[2]? =some (.pointer (some ⟨g,0,none⟩)))(t3:tmps[3]? =some u)(t4:tmps[4]? =some v)
 (h:V.heap[g]? =some (.cells #[x] 44 (0,0))):(results Tryz.f18 tmps).run Tryz.prog V= .ok (.tuple #[.agg #[x],u,v]) V:=by
 have c0:V.cell? ⟨g,0,none⟩=some x:=by simp[World.cell?,h]
 simp[results,Tryz.f18,go_sem,t2,t3,t4,c0]
theorem Ycs {w w3:World}{x0:Value}{t:TypeId}(x:Value)(o:Obj)(hb:Below w.heap.size w w3)(h:w3.heap[w.heap.size]? =some (.cells #[x0] t (0,0))):
 ((w3.setCell ⟨w.heap.size,0,none⟩ x).alloc o).heap[w.heap.size]? =some (.cells #[x] t (0,0))/\Below w.heap.size w ((w3.setCell ⟨w.heap.size,0,none⟩ x).alloc o)/\Keep (fun k=>k=w.heap.size) w3 ((w3.setCell ⟨w.heap.size,0,none⟩ x).alloc o):=by
 have K1:=Keep.of_setCell w3 ⟨w.heap.size,0,none⟩ x;have K2:=K1.trans (Keep.of_alloc (S:=fun _=>False) (w3.setCell ⟨w.heap.size,0,none⟩ x) o) (fun _ _ q=>q.elim);have n1:=heap_setCell_same w3 w.heap.size 0 _ _ x h;have n2:=((Keep.of_alloc (S:=fun _=>False) (w3.setCell ⟨w.heap.size,0,none⟩ x) o).block w.heap.size (Zg n1).1 (fun q=>q)).trans n1;exact⟨by simpa using n2,hb.trans (K2.below hb.size (fun i hi q=>by have:i=w.heap.size:=q; omega)),K2⟩
theorem Yiq (hV:JO)(s:ByteArray)(m:Int)(w:World)(hs:s.size<=40000)(hm:w.cell? ⟨2,0,none⟩=some (.int .i64 m))(hE:ErrT w):
 Calls Tryz.prog 18 #[.string s] w (Yir w (Yh4 s)):=by
 have hg:2<w.heap.size:=World.block_lt_of_cell? w _ hm;have hgE:3<w.heap.size:=World.block_lt_of_cell? w _ hE;have kA:=below_alloc1 w (.cells #[.slice none 0 0] 44);have n0:=heap_alloc_new w (.cells #[.slice none 0 0] 44);have hRd:=Yef hV s m (w.alloc (.cells #[.slice none 0 0] 44)) hs ((kA.cell (p:=⟨2,0,none⟩) hg).trans hm) ((kA.cell (p:=⟨3,0,none⟩) hgE).trans hE);have hcod:=Ycq s;unfold Yh4;generalize readB s=R at hRd hcod⊢;have HK:=Zh (And.intro kA n0);clear hm hE hg hgE kA n0;go_enter Tryz.func18,Tryz.ntmps18;go_wp2_with fail;refine hRd.mono ?_;rintro e w3 ⟨hb,hP⟩;obtain⟨kA,n0⟩:=HK.out;have hz:(w.alloc (.cells #[.slice none 0 0] 44)).heap.size=w.heap.size+1:=Zs;have n3:=(hb.block w.heap.size Zo).trans n0;have hb3:Below w.heap.size w w3:=kA.trans (hb.mono Zo);have hlt3:w.heap.size<w3.heap.size:=(Zg n3).1;have c0:w3.cell? ⟨w.heap.size,0,none⟩=some (.slice none 0 0):=by simp[World.cell?,n3]
 have f0:w3.frozen? ⟨w.heap.size,0,none⟩=false:=by simp[World.frozen?,n3]
 cases R with
 |
  bad a c=>
  subst hP;have hc:(c==0)=false:=by simpa using hcod a c rfl
  have hc2:(c != 0)=true:=by simpa using hcod a c rfl
  have HX:=Zh (And.intro hb3 n3);clear hRd hb hb3 HK hcod kA n0 n3;go_wp2;obtain⟨hb3,n3⟩:=HX.out;obtain⟨p0,pb,_⟩:=Ycs (.slice none 0 0) (.cells #[.slice none 0 0,.slice none 0 0] 26) hb3 n3;exact bodyPost_ret (Yb4 rfl rfl rfl p0) rfl ⟨pb,rfl⟩
 |
  ok x j=>
  obtain⟨ve,vf,rfl,⟨aoe,cape,rfl,he⟩,hf⟩:=hP;obtain⟨aof,capf,rfl,hf'⟩:=hf;have hf:Yab w3 _ (.slice aof x.funcs.length capf) x.funcs:=⟨aof,capf,rfl,hf'⟩;have HX:=Zh (And.intro hb3 (And.intro n3 hf));clear hRd hb hb3 HK hcod kA n0 n3 he hf hf';by_cases hl:x.externs.length=0
  ·have HL:Hid (Yjt (.ok x j)= .ok x j):=Zh (if_pos hl);have l0:decide ((0:Int)<(x.externs.length:Int))=false:=Zf;have l1:decide (0<x.externs.length)=false:=Zf;clear hl;go_wp2;obtain⟨hb3,n3,hf⟩:=HX.out;obtain⟨p0,pb,pk⟩:=Ycs (.slice aof x.funcs.length capf) (.cells #[.slice aoe x.externs.length cape,.slice aof x.funcs.length capf] 26) hb3 n3;refine bodyPost_ret (Yb4 rfl rfl rfl p0) rfl ?_;rw[HL.out];exact⟨pb,_,rfl,hf.keep (fun k q hk=>pk.block k hk (by simp at q; omega)) (fun k q _=>by simp at q; omega)⟩
  ·have HL:Hid (Yjt (.ok x j)= .bad 0 1):=Zh (if_neg hl);have l0:decide ((0:Int)<(x.externs.length:Int))=true:=Zt;have l1:decide (0<x.externs.length)=true:=Zt;clear hl;go_wp2;obtain⟨hb3,n3,hf⟩:=HX.out;obtain⟨p0,pb,pk⟩:=Ycs (.slice none 0 0) (.cells #[.slice aoe x.externs.length cape,.slice aof x.funcs.length capf] 26) hb3 n3;refine bodyPost_ret (Yb4 rfl rfl rfl p0) rfl ?_;rw[HL.out];exact⟨pb,rfl⟩
def SnAt (B mb:Nat)(W:World)(x:Ss):Prop:=∃a0 n0 c0 a1 n1 c1 a2 n2 c2 a3 n3 c3 a4 n4 c4,
 W.heap[mb]? =some (.cells #[.slice a0 n0 c0,.slice a1 n1 c1,.slice a2 n2 c2,.slice a3 n3 c3,.slice a4 n4 c4] 39 (0,0))/\
 x.flat W (fun k=>B<=k) [.slice a0 n0 c0,.slice a1 n1 c1,.slice a2 n2 c2,.slice a3 n3 c3,.slice a4 n4 c4]
theorem Yme {w:World}{S:Nat->Prop}{s:Ss}{v0 v1 v2 v3 v4:Value}(hs:s.len=1)(h:s.flat w S [v0,v1,v2,v3,v4]):
 (∃a n c,v0= .slice a n c)/\(∃a n c,v1= .slice a n c)/\(∃a n c,v2= .slice a n c)/\(∃a n c,v3= .slice a n c)/\(∃a n c,v4= .slice a n c):=by
 cases s with
 |nil=>cases hs
 |
  cons l t r sb bl rest=>
  obtain⟨u0,u1,u2,u3,u4,ys,e1,h0,h1,h2,h3,h4,_⟩:=h;cases e1;obtain⟨a0,c0,e0⟩:=h0.form;obtain⟨a1,c1,e1,_⟩:=h1;obtain⟨a2,c2,e2⟩:=h2.form;obtain⟨a3,c3,e3⟩:=h3.form;obtain⟨a4,c4,e4,_⟩:=h4;exact⟨⟨_,_,_,e0⟩,⟨_,_,_,e1⟩,⟨_,_,_,e2⟩,⟨_,_,_,e3⟩,⟨_,_,_,e4⟩⟩
def YoD (B rb mb:Nat)(w:World)(R:Rd Ss)(e:Ending)(w':World):Prop:=Keep (fun k=>k=rb\/k=mb\/B<=k) w w'/\match R with
 |.ok x _=>e= .returned (.tuple #[])/\SnAt B mb w' x
 |.bad a c=>e=misR a c
theorem Ynr {L:List Tk}{en n blocks i:Nat}{s:Ss}{k:Nat}(h:Yg L en n blocks i= .ok s k):s.len=1:=by
 obtain⟨l,j,_,q2⟩:=Rd.bind_inv h;exact Yd4 _ _ _ _ _ _ _ q2
def endR (L:List Tk)(en:Nat)(x:Ss)(k:Nat):Rd Ss:=if k<L.length then YQ L en k 50 else .ok x k
theorem YiD (s:ByteArray)(l:List Tk):Ymn s l=(Yg l s.size (l.length+4) 0 0).bind (endR l s.size):=by
 unfold Ymn Yg;rw[Rd.bind_assoc];rfl
theorem Yr.turn {B rb mb:Nat}{ao:Option Addr}{cap:Nat}{L:List Tk}{en i:Nat}{w w':World}{cs:Array Value}{t:TypeId}(h:Yr B w rb ao cap L en i)(hK:Keep (fun k=>k=mb) w w')(hm:w.heap[mb]? =some (.cells cs t (0,0)))(hne:mb≠rb)
 (hcs:∀(o:Nat) (k:IntKind) (n:Int),cs[o]?≠some (Value.int k n)):Yr B w' rb ao cap L en i:=by
 refine⟨(hK.block rb h.lt (fun q=>hne q.symm)).trans h.row,fun hn=>?_,h.le,h.few,h.small,h.low,Nat.le_trans h.size hK.size⟩;obtain⟨g,off,e,hl,hs,hc⟩:=h.toks hn;have hg:g≠mb:=by
  rintro rfl;have h0:=(hc 0 (List.length_pos_iff.2 hn)).1;rw[cell_of_row w g _ cs t (0,0) hm] at h0;exact hcs _ _ _ h0
 have hcell:∀o',w'.cell? ⟨g,o',none⟩=w.cell? ⟨g,o',none⟩:=fun o'=>hK.cell (p:=⟨g,o',none⟩) (Nat.lt_of_lt_of_le hl h.size) hg;exact⟨g,off,e,hl,hs,fun k hk'=>⟨(hcell _).trans (hc k hk').1,(hcell _).trans (hc k hk').2.1,(hcell _).trans (hc k hk').2.2⟩⟩
theorem Yol (hV:JO)(B rb mb:Nat)(ao:Option Addr)(cap:Nat)(L:List Tk)(en:Nat)(w:World)(h0:Yr B w rb ao cap L en 0)(hmb:mb<B)(hne:mb≠rb)(hB:B=w.heap.size)
 (hn:w.heap[mb]? =some (.cells #[.slice none 0 0,.slice none 0 0,.slice none 0 0,.slice none 0 0,.slice none 0 0] 39 (0,0))):
 Calls Tryz.prog 53 #[.pointer (some ⟨rb,0,none⟩),.pointer (some ⟨mb,0,none⟩)] w (YoD B rb mb w ((Yg L en (L.length+4) 0 0).bind (endR L en))):=by
 have hS:Calls Tryz.prog 54 #[.pointer (some ⟨rb,0,none⟩),.int .i64 0] w (YbO B rb ao cap L en w (Yg L en (L.length+4) 0 0)):=Yg4 hV B rb ao cap L en 0 0 (L.length+4) w Zo Zo h0;have hone:∀s k,Yg L en (L.length+4) 0 0= .ok s k->s.len=1:=fun s k q=>Ynr q;have HO:=Zh hone;generalize Yg L en (L.length+4) 0 0=N at hS HO⊢;have HN:=Zh (And.intro hn hB);clear hone hn hV h0 hB;go_enter Tryz.func53,Tryz.ntmps53;go_wp2_with fail;refine hS.mono ?_;rintro e w1 ⟨hk1,hP⟩;obtain⟨hn,hB⟩:=HN.out;have n1:=(hk1.block mb Zo hne).trans hn;cases N with
 |
  bad a c=>
  subst hP;exact⟨rfl,hk1.mono (fun _ _ q=>.inl q),rfl⟩
 |
  ok x k=>
  obtain⟨v0,v1,v2,v3,v4,rfl,hfl,hr⟩:=hP;obtain⟨⟨a0,l0,c0,rfl⟩,⟨a1,l1,c1,rfl⟩,⟨a2,l2,c2,rfl⟩,⟨a3,l3,c3,rfl⟩,⟨a4,l4,c4,rfl⟩⟩:=Yme (HO.out _ _ rfl) hfl;have r0:w1.cell? ⟨mb,0,none⟩=some (.slice none 0 0):=by simp[World.cell?,n1]
  have r1:w1.cell? ⟨mb,1,none⟩=some (.slice none 0 0):=by simp[World.cell?,n1]
  have r2:w1.cell? ⟨mb,2,none⟩=some (.slice none 0 0):=by simp[World.cell?,n1]
  have r3:w1.cell? ⟨mb,3,none⟩=some (.slice none 0 0):=by simp[World.cell?,n1]
  have r4:w1.cell? ⟨mb,4,none⟩=some (.slice none 0 0):=by simp[World.cell?,n1]
  have f0:w1.frozen? ⟨mb,0,none⟩=false:=by simp[World.frozen?,n1]
  have f1:w1.frozen? ⟨mb,1,none⟩=false:=by simp[World.frozen?,n1]
  have f2:w1.frozen? ⟨mb,2,none⟩=false:=by simp[World.frozen?,n1]
  have f3:w1.frozen? ⟨mb,3,none⟩=false:=by simp[World.frozen?,n1]
  have f4:w1.frozen? ⟨mb,4,none⟩=false:=by simp[World.frozen?,n1]
  have n2:=Yx w1 mb _ _ _ _ _ (.slice a0 l0 c0) (.slice a1 l1 c1) (.slice a2 l2 c2) (.slice a3 l3 c3) (.slice a4 l4 c4) n1;have k2:=Yw w1 mb (.slice a0 l0 c0) (.slice a1 l1 c1) (.slice a2 l2 c2) (.slice a3 l3 c3) (.slice a4 l4 c4);have hfl2:x.flat (((((w1.setCell ⟨mb,0,none⟩ (.slice a0 l0 c0)).setCell ⟨mb,1,none⟩ (.slice a1 l1 c1)).setCell ⟨mb,2,none⟩ (.slice a2 l2 c2)).setCell ⟨mb,3,none⟩ (.slice a3 l3 c3)).setCell ⟨mb,4,none⟩ (.slice a4 l4 c4)) (fun k=>B<=k) [.slice a0 l0 c0,.slice a1 l1 c1,.slice a2 l2 c2,.slice a3 l3 c3,.slice a4 l4 c4]:=
   Ss.flat_keep x _ hfl (fun k q hk=>k2.block k hk Zo) (fun k q _=>by omega)
  have hr2:Yr B (((((w1.setCell ⟨mb,0,none⟩ (.slice a0 l0 c0)).setCell ⟨mb,1,none⟩ (.slice a1 l1 c1)).setCell ⟨mb,2,none⟩ (.slice a2 l2 c2)).setCell ⟨mb,3,none⟩ (.slice a3 l3 c3)).setCell ⟨mb,4,none⟩ (.slice a4 l4 c4)) rb ao cap L en k:=hr.turn k2 n1 hne (by intro o k n; rcases o with _ | _ | _ | _ | _ | o<;>simp);have K2:=(hk1.mono (T:=fun k=>k=rb\/k=mb\/B<=k) (fun _ _ q=>.inl q)).trans k2 (fun _ _ q=>.inr (.inl q));have HE:=Zh (And.intro n2 (And.intro hfl2 (And.intro hr2 K2)));clear hS HN HO hn hB n1 n2 k2 hfl hfl2 hr hr2 K2 hk1;go_wp2_with fail;obtain⟨n2,hfl2,hr2,K2⟩:=HE.out;have hD:=Ycx B rb ao cap L en k _ hr2;clear r0 r1 r2 r3 r4 f0 f1 f2 f3 f4 HE;generalize(((((w1.setCell ⟨mb,0,none⟩ (.slice a0 l0 c0)).setCell ⟨mb,1,none⟩ (.slice a1 l1 c1)).setCell ⟨mb,2,none⟩ (.slice a2 l2 c2)).setCell ⟨mb,3,none⟩ (.slice a3 l3 c3)).setCell ⟨mb,4,none⟩ (.slice a4 l4 c4))=w2 at n2 hfl2 hr2 K2 hD⊢;have hkl:=hr2.le;by_cases hlt:k<L.length
  ·have hne2:¬k=L.length:=by omega
   rw[decide_eq_false hne2] at hD;have HX:Hid ((Rd.ok x k).bind (endR L en)= .bad (Y6 L en k) (Ydf L k 50)):=Zh (by show endR L en x k=_; unfold endR; rw[if_pos hlt]; rfl);have HE:=Zh (And.intro hr2 K2);clear n2 hfl2 hr2 K2 hne2;refine hD.mono ?_;rintro e w3 ⟨rfl,hk3,_⟩;obtain⟨hr2,K2⟩:=HE.out;have hF:=Yah B rb ao cap L en k 50 w3 (hr2.keep hk3 (fun _ q=>q.elim));have HK:=Zh (K2.trans hk3 (fun _ _ q=>q.elim));clear hD hk3 hr2 K2 HE;go_wp2_with fail;refine hF.mono ?_;rintro e w4 ⟨rfl,hk4⟩;refine⟨rfl,HK.out.trans hk4 (fun _ _ q=>q.elim),?_⟩;rw[HX.out];rfl
  ·have he:k=L.length:=by omega
   rw[decide_eq_true he] at hD;have HX:Hid ((Rd.ok x k).bind (endR L en)= .ok x k):=Zh (by show endR L en x k=_; unfold endR; rw[if_neg hlt]);have HE:=Zh (And.intro n2 (And.intro hfl2 (And.intro hr2.size K2)));clear n2 hfl2 hr2 K2 he hlt hkl;refine hD.mono ?_;rintro e w3 ⟨rfl,hk3,_⟩;clear hD;have HK3:=Zh hk3;clear hk3;go_wp2_with fail;go_end0
   obtain⟨n2,hfl2,hsz,K2⟩:=HE.out;have hk3:=HK3.out;refine⟨K2.trans hk3 (fun _ _ q=>q.elim),?_⟩;rw[HX.out];exact⟨rfl,_,_,_,_,_,_,_,_,_,_,_,_,_,_,_,(hk3.block mb (Zg n2).1 (fun q=>q)).trans n2,Ss.flat_keep x _ hfl2 (fun k q hk=>hk3.block k hk (fun q=>q)) (fun k q _=>q)⟩
def Ynk (w:World)(R:Rd Ss)(e:Ending)(w':World):Prop:=Below w.heap.size w w'/\match R with
 |.ok x _=>∃v0 v1 v2 v3 v4,e= .returned (.tuple #[.agg #[v0,v1,v2,v3,v4],.int .i64 0,.int .i64 0])/\x.flat w' (fun k=>w.heap.size<=k) [v0,v1,v2,v3,v4]
 |.bad a c=>e= .returned (.tuple #[.agg #[.slice none 0 0,.slice none 0 0,.slice none 0 0,.slice none 0 0,.slice none 0 0],.int .i64 a,.int .i64 c])
theorem YeA {tmps:Array Value}{g:Nat}{V:World}{a b c d e u v:Value}(t2:tmps[2]? =some (.pointer (some ⟨g,0,none⟩)))(t3:tmps[3]? =some u)(t4:tmps[4]? =some v)
 (h:V.heap[g]? =some (.cells #[a,b,c,d,e] 39 (0,0))):(results Tryz.f15 tmps).run Tryz.prog V= .ok (.tuple #[.agg #[a,b,c,d,e],u,v]) V:=by
 have c0:V.cell? ⟨g,0,none⟩=some a:=by simp[World.cell?,h]
 have c1:V.cell? ⟨g,1,none⟩=some b:=by simp[World.cell?,h]
 have c2:V.cell? ⟨g,2,none⟩=some c:=by simp[World.cell?,h]
 have c3:V.cell? ⟨g,3,none⟩=some d:=by simp[World.cell?,h]
 have c4:V.cell? ⟨g,4,none⟩=some e:=by simp[World.cell?,h]
 simp[results,Tryz.f15,go_sem,t2,t3,t4,c0,c1,c2,c3,c4]
theorem Yd0 (hV:JO)(s:ByteArray)(m:Int)(w:World)(hs:s.size<=40000)(hm:w.cell? ⟨2,0,none⟩=some (.int .i64 m))(hE:ErrT w):
 Calls Tryz.prog 15 #[.string s] w (Ynk w (YbS s)):=by
 have hg:2<w.heap.size:=World.block_lt_of_cell? w _ hm;have hgE:3<w.heap.size:=World.block_lt_of_cell? w _ hE;have kA:Keep (fun _=>False) w ((w.alloc (.cells #[.slice none 0 0,.slice none 0 0,.slice none 0 0,.slice none 0 0,.slice none 0 0] 39 (0,0))).alloc (.cells #[.slice none 0 0,.slice none 0 0,.slice none 0 0,.slice none 0 0,.slice none 0 0] 39 (0,0))):=(Keep.of_alloc w _).trans (Keep.of_alloc (S:=fun _=>False) _ _) (fun _ _ q=>q);have hz:((w.alloc (.cells #[.slice none 0 0,.slice none 0 0,.slice none 0 0,.slice none 0 0,.slice none 0 0] 39 (0,0))).alloc (.cells #[.slice none 0 0,.slice none 0 0,.slice none 0 0,.slice none 0 0,.slice none 0 0] 39 (0,0))).heap.size=w.heap.size+2:=Zs;have n0:((w.alloc (.cells #[.slice none 0 0,.slice none 0 0,.slice none 0 0,.slice none 0 0,.slice none 0 0] 39 (0,0))).alloc (.cells #[.slice none 0 0,.slice none 0 0,.slice none 0 0,.slice none 0 0,.slice none 0 0] 39 (0,0))).heap[w.heap.size]? =some (.cells #[.slice none 0 0,.slice none 0 0,.slice none 0 0,.slice none 0 0,.slice none 0 0] 39 (0,0)):=by
  rw[Below.block (below_alloc1 _ _) _ Zs]; exact heap_alloc_new _ _
 have n1:((w.alloc (.cells #[.slice none 0 0,.slice none 0 0,.slice none 0 0,.slice none 0 0,.slice none 0 0] 39 (0,0))).alloc (.cells #[.slice none 0 0,.slice none 0 0,.slice none 0 0,.slice none 0 0,.slice none 0 0] 39 (0,0))).heap[w.heap.size+1]? =some (.cells #[.slice none 0 0,.slice none 0 0,.slice none 0 0,.slice none 0 0,.slice none 0 0] 39 (0,0)):=by
  have:=heap_alloc_new (w.alloc (.cells #[.slice none 0 0,.slice none 0 0,.slice none 0 0,.slice none 0 0,.slice none 0 0] 39 (0,0))) (.cells #[.slice none 0 0,.slice none 0 0,.slice none 0 0,.slice none 0 0,.slice none 0 0] 39 (0,0)); simpa using this
 have hX:∀W:World,W=((w.alloc (.cells #[.slice none 0 0,.slice none 0 0,.slice none 0 0,.slice none 0 0,.slice none 0 0] 39 (0,0))).alloc (.cells #[.slice none 0 0,.slice none 0 0,.slice none 0 0,.slice none 0 0,.slice none 0 0] 39 (0,0)))->
  Calls Tryz.prog 40 #[.string s,.func (.func 53) #[] #[.pointer (some ⟨w.heap.size+1,0,none⟩)]] W (YgD (w.heap.size+1) W (fun B x W'=>w.heap.size+1<B/\SnAt B (w.heap.size+1) W' x) (YbS s)):=fun W hW=>by
  rw[<-hW] at kA hz n0 n1;rw[YeE];refine YiI s m 53 (w.heap.size+1) _ (fun B x W'=>w.heap.size+1<B/\SnAt B (w.heap.size+1) W' x) W hs ((kA.cell (p:=⟨2,0,none⟩) hg (fun q=>q)).trans hm) ((kA.cell (p:=⟨3,0,none⟩) hgE (fun q=>q)).trans hE) Zo ?_ ?_ ?_
  ·intro args w; simp[go_sem]
  ·intro l sp w1 rb ao cap hsc hr hk hmr hrb;have hsz:=hk.size;rw[YiD];refine(Yol hV w1.heap.size rb (w.heap.size+1) ao cap l s.size w1 hr Zo Zo rfl ((hk.block _ (Zg n1).1 (fun q=>q)).trans n1)).mono ?_;rintro e w2 ⟨hk2,hR⟩;refine⟨hk2,?_⟩;revert hR;cases(Yg l s.size (l.length+4) 0 0).bind (endR l s.size) with
   |bad a c=>exact id
   |ok x j=>exact fun⟨h1,h2⟩=>⟨h1,by omega,h2⟩
  ·rintro B x W1 W2 hB ⟨hlt,a0,m0,c0,a1,m1,c1,a2,m2,c2,a3,m3,c3,a4,m4,c4,hM,hfl⟩ hk;exact⟨hlt,a0,m0,c0,a1,m1,c1,a2,m2,c2,a3,m3,c3,a4,m4,c4,(hk.block _ (Zg hM).1 (fun q=>by omega)).trans hM,Ss.flat_keep x _ hfl (fun k q hk'=>hk.block k hk' Zo) (fun k q _=>q)⟩
 have hRd:=hX _ rfl;have hcod:=YhZ s;generalize YbS s=R at hRd hcod⊢;have HK:=Zh (And.intro kA (And.intro n0 hz));clear hX hm hE hg hgE kA n0 n1 hz;go_enter Tryz.func15,Tryz.ntmps15;go_wp2_with fail;refine hRd.mono ?_;rintro e w3 ⟨hk3,hP⟩;obtain⟨kA,n0,hz⟩:=HK.out;have n3:=(hk3.block w.heap.size Zo (fun q=>by omega)).trans n0;have hb3:Below w.heap.size w w3:=(kA.trans hk3 (fun k hk q=>by omega)).below (Nat.le_refl _) (fun _ _ q=>q);have c0:w3.cell? ⟨w.heap.size,0,none⟩=some (.slice none 0 0):=by simp[World.cell?,n3]
 have c1:w3.cell? ⟨w.heap.size,1,none⟩=some (.slice none 0 0):=by simp[World.cell?,n3]
 have c2:w3.cell? ⟨w.heap.size,2,none⟩=some (.slice none 0 0):=by simp[World.cell?,n3]
 have c3:w3.cell? ⟨w.heap.size,3,none⟩=some (.slice none 0 0):=by simp[World.cell?,n3]
 have c4:w3.cell? ⟨w.heap.size,4,none⟩=some (.slice none 0 0):=by simp[World.cell?,n3]
 have f0:w3.frozen? ⟨w.heap.size,0,none⟩=false:=by simp[World.frozen?,n3]
 have f1:w3.frozen? ⟨w.heap.size,1,none⟩=false:=by simp[World.frozen?,n3]
 have f2:w3.frozen? ⟨w.heap.size,2,none⟩=false:=by simp[World.frozen?,n3]
 have f3:w3.frozen? ⟨w.heap.size,3,none⟩=false:=by simp[World.frozen?,n3]
 have f4:w3.frozen? ⟨w.heap.size,4,none⟩=false:=by simp[World.frozen?,n3]
 cases R with
 |
  bad a c=>
  subst hP;have hc:(c != 0)=true:=by simpa using hcod a c rfl
  have HX:=Zh (And.intro hb3 n3);clear hRd hk3 hb3 HK hcod kA n0 n3;go_wp2;obtain⟨hb3,n3⟩:=HX.out;have p0:=Yx w3 w.heap.size _ _ _ _ _ (.slice none 0 0) (.slice none 0 0) (.slice none 0 0) (.slice none 0 0) (.slice none 0 0) n3;have pk:=Yw w3 w.heap.size (.slice none 0 0) (.slice none 0 0) (.slice none 0 0) (.slice none 0 0) (.slice none 0 0);exact bodyPost_ret (YeA rfl rfl rfl p0) rfl ⟨hb3.trans (pk.below hb3.size (fun i hi q=>by omega)),rfl⟩
 |
  ok x j=>
  obtain⟨rfl,B,hB,hlt,a0,m0,k0,a1,m1,k1,a2,m2,k2,a3,m3,k3,a4,m4,k4,hM,hfl⟩:=hP;have HX:=Zh (And.intro hb3 (And.intro n3 hfl));have d0:w3.cell? ⟨w.heap.size+1,0,none⟩=some (.slice a0 m0 k0):=by simp[World.cell?,hM]
  have d1:w3.cell? ⟨w.heap.size+1,1,none⟩=some (.slice a1 m1 k1):=by simp[World.cell?,hM]
  have d2:w3.cell? ⟨w.heap.size+1,2,none⟩=some (.slice a2 m2 k2):=by simp[World.cell?,hM]
  have d3:w3.cell? ⟨w.heap.size+1,3,none⟩=some (.slice a3 m3 k3):=by simp[World.cell?,hM]
  have d4:w3.cell? ⟨w.heap.size+1,4,none⟩=some (.slice a4 m4 k4):=by simp[World.cell?,hM]
  clear hRd hk3 hb3 HK hcod kA n0 n3 hM hfl;go_wp2;obtain⟨hb3,n3,hfl⟩:=HX.out;have p0:=Yx w3 w.heap.size _ _ _ _ _ (.slice a0 m0 k0) (.slice a1 m1 k1) (.slice a2 m2 k2) (.slice a3 m3 k3) (.slice a4 m4 k4) n3;have pk:=Yw w3 w.heap.size (.slice a0 m0 k0) (.slice a1 m1 k1) (.slice a2 m2 k2) (.slice a3 m3 k3) (.slice a4 m4 k4);exact bodyPost_ret (YeA rfl rfl rfl p0) rfl ⟨hb3.trans (pk.below hb3.size (fun i hi q=>by omega)),_,_,_,_,_,rfl,Ss.flat_keep x _ hfl (fun k q hk=>pk.block k hk Zo) (fun k q _=>by omega)⟩
end Go.Proofs.YteamjdmhdfjopaaGreatDoor
