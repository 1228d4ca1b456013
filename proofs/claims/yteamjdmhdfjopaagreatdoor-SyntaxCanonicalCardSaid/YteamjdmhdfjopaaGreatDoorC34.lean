/- A part of the proof; it holds the texts Rfl Eqb (names and blanks shortened). -/
import Derived.Test.YteamjdmhdfjopaaGreatDoorC33
import Derived.Test.YteamjdmhdfjopaaGreatDoorC17
import Derived.Deep.RegionLaw
import Derived.BigRegion
import Derived.Test.YteamjdmhdfjopaaGreatDoorC14
import Derived.Test.YteamjdmhdfjopaaGreatDoorC2
import Derived.Test.YteamjdmhdfjopaaGreatDoorC18
namespace Go.Proofs.YteamjdmhdfjopaaGreatDoor
open Go.RowKit
set_option maxRecDepth 100000
set_option maxHeartbeats 8000000
set_option linter.unusedVariables false
set_option linter.unusedSimpArgs false
set_option linter.unnecessarySimpa false
section
variable {ao:Option Addr}{cap:Nat}{L:List Tk}{en:Nat}{w wr w1 w3:World}{G:Nat}{v0 v1 v2 v3 v4 u:Value}{left:Ts}{tests:List (Ts×Ts)}{i a c:Int}{y:Ts×Ts}
end
section
variable {w w1 w2:World}{bs:List World}{rc sc rc' sc':Array Value}
end
theorem row2 {W:World}{g:Nat}{a b:Value}{t:TypeId}(h:W.heap[g]? =some (.cells #[a,b] t (0,0))):W.cell? ⟨g,0,none⟩=some a/\W.cell? ⟨g,1,none⟩=some b:=⟨by simp[World.cell?,h],by simp[World.cell?,h]⟩
theorem Yjw (S:Nat->Prop)(T:Ts)(va vb:Value)(w:World)(hA:TsV w S va T)(hB:TsV w S vb T)(hS:∀k,S k->k<w.heap.size)(h1:T.nodes<=1000000000000):
 Calls Tryz.prog 159 #[.agg #[va,vb]] w fun e w'=>e= .returned (.bool false)/\Below w.heap.size w w':=by
 have hE:=fun(W:World) (hb:Below w.heap.size w W)=>Yi7 S T va vb W (hA.keep (w':=W) (fun k _ hk=>hb.block k hk) (fun _ q _=>q)) (hB.keep (w':=W) (fun k _ hk=>hb.block k hk) (fun _ q _=>q)) h1;obtain⟨ao,ca,rfl⟩:=hA.form;obtain⟨bo,cb,rfl⟩:=hB.form;have HE:=Zh hE;clear hE hA hB hS;go_enter Tryz.func159,Tryz.ntmps159;go_wp2_with fail;refine(HE.out _ (below_alloc1 w _)).mono ?_;rintro e w' ⟨rfl,n,rfl⟩;go_wp2;go_ret;exact⟨rfl,below_drewN (below_alloc1 w _) n⟩
theorem YiK (S:Nat->Prop)(P:List (Ts×Ts))(vl:Value)(w:World)(hV:Y3 w S vl P)(hsame:∀x∈P,x.1=x.2/\x.1.nodes<=1000000000000)(hS:∀k,S k->k<w.heap.size)(hbig:P.length<=1000000000):
 Calls Tryz.prog 206 #[vl,.func (.func 159) #[] #[]] w fun e w'=>e= .returned (.int .i64 (-1))/\Below w.heap.size w w':=by
 obtain⟨ao,ca,rfl,hat⟩:=hV;go_enter Tryz.func206,Tryz.ntmps206;go_wp2_with fail;go_loopw [8] (fun i wr=>∃k:Nat,i= .int .i64 k/\k<=P.length/\Hid (Below w.heap.size w wr)) (fun i _=>P.length - (intOf i).toNat)
 case atStart=>exact⟨0,rfl,Nat.zero_le _,Zh (Below.refl _ _)⟩
 case round=>
  obtain⟨k,rfl,hk,HB⟩:=hrel;by_cases hkl:k<P.length
  ·have l0:decide ((k:Int)<(P.length:Int))=true:=Zt;have l1:decide (k<P.length)=true:=decide_eq_true hkl;obtain⟨g,o,rfl,hg,hata⟩:=hat (fun q=>by rw[q] at hkl; cases hkl);have hgw:=hS _ hg;obtain⟨⟨p0,c0,t0⟩,⟨p1,c1,t1⟩⟩:=Yba P g o k (Yah P g o (.inl hg) hata (fun k _ hk=>HB.out.block k hk) (fun k q _=>q)) hkl;obtain⟨q1,q2⟩:=hsame _ (List.getElem_mem hkl);rw[<-q1] at t1;have hE:=Yjw S _ p0 p1 wr t0 t1 (fun k hk=>Nat.lt_of_lt_of_le (hS k hk) HB.out.size) q2;have HE:=Zh hE;clear hE t0 t1 q1 q2;go_wp2_with fail;refine HE.out.mono ?_;rintro e w2 ⟨rfl,hb2⟩;have HB2:=Zh (HB.out.trans (hb2.mono HB.out.size));clear HE hb2;go_wp2_with fail;go_roundw
   case rel=>exact⟨k+1,by go_num,by omega,HB2⟩
   case measure=>simp[intOf]; omega
  ·have l0:decide ((k:Int)<(P.length:Int))=false:=Zf;have l1:decide (k<P.length)=false:=decide_eq_false hkl;go_wp2_with fail;go_ret;exact⟨rfl,HB.out⟩
theorem Yea (S:Nat->Prop)(P:List (Ts×Ts))(vl:Value)(w:World)(hV:Y3 w S vl P)(hsame:∀x∈P,x.1=x.2/\x.1.nodes<=1000000000000)(hS:∀k,S k->k<w.heap.size)(hbig:P.length<=1000000000):
 Calls Tryz.prog 121 #[vl] w fun e w'=>e= .returned (.bool true)/\Below w.heap.size w w':=by
 have hI:=YiK S P vl w hV hsame hS hbig;have hC:Calls Tryz.prog 158 #[vl,.func (.func 159) #[] #[]] w fun e w'=>e= .returned (.bool false)/\Below w.heap.size w w':=by
  obtain⟨ao,ca,rfl,hat⟩:=hV;have HI:=Zh hI;clear hI hat;go_enter Tryz.func158,Tryz.ntmps158;go_wp2_with fail;refine HI.out.mono ?_;rintro e w2 ⟨rfl,hb2⟩;go_wp2;go_ret;exact⟨rfl,hb2⟩
 obtain⟨ao,ca,rfl,hat⟩:=hV;have HC:=Zh hC;clear hI hat hC;go_enter Tryz.func121,Tryz.ntmps121;go_wp2_with fail;refine HC.out.mono ?_;rintro e w2 ⟨rfl,hb2⟩;go_wp2;go_ret;exact⟨rfl,hb2⟩
theorem Yiv:(Tryz.prog.info? 104).map (·.size)=some 2:=by kernel_rfl
theorem YdG (w:World)(t:TypeId)(z c:Array Value):Below w.heap.size w ((w.alloc (.cells z t)).setRow w.heap.size c)/\((w.alloc (.cells z t)).setRow w.heap.size c).heap[w.heap.size]? =some (.cells c t (0,0))/\((w.alloc (.cells z t)).setRow w.heap.size c).heap.size=w.heap.size+1:=by
 have h:=below_alloc1 w (.cells z t);exact⟨⟨h.os,h.tape,h.output,by have:=h.size; simpa using this,fun k hk=>(setRow_other _ _ _ _ Zo).trans (h.block k hk)⟩,setRow_heap _ _ _ _ _ _ (heap_alloc_new w _),by simp⟩
theorem Ye0 {W:World}{S:Nat->Prop}{b o:Nat}{l:List (Ts×Ts)}{x:Ts×Ts}{v u:Value}(h0:W.cell? ⟨b,o,none⟩=some v)(h1:W.cell? ⟨b,o+1,none⟩=some u)(hv:TsV W S v x.1)(hu:TsV W S u x.2)(hr:YbS W S l b (o+2)):YbS W S (x::l) b o:=
 ⟨⟨v,h0,hv⟩,⟨u,h1,hu⟩,hr⟩
theorem Yjv (S:Nat->Prop)(X:Ts×Ts)(va vb ua ub:Value)(w:World)(h0:TsV w S va X.1)(h1:TsV w S ua X.1)(h2:TsV w S vb X.2)(h3:TsV w S ub X.2)(hS:∀k,S k->k<w.heap.size)(n1:X.1.nodes<=1000000000000)(n2:X.2.nodes<=1000000000000):
 Calls Tryz.prog 120 #[.agg #[va,vb],.agg #[ua,ub]] w fun e w'=>e= .returned (.bool true)/\Below w.heap.size w w':=by
 obtain⟨a0,c0,e0⟩:=h0.form;obtain⟨a1,c1,e1⟩:=h1.form;obtain⟨a2,c2,e2⟩:=h2.form;obtain⟨a3,c3,e3⟩:=h3.form;subst e0; subst e1; subst e2; subst e3;have HV:=Zh (And.intro h0 (And.intro h1 (And.intro h2 h3)));clear h0 h1 h2 h3;go_enter Tryz.func120,Tryz.ntmps120;go_wp2_with fail;generalize hW:World.alloc (World.alloc (World.alloc w _) _) _=W;have hb:Below w.heap.size w W:=by rw[<-hW]; exact((below_alloc1 w _).alloc Zs _).alloc (by simp; omega) _
 have hn:W.heap[w.heap.size+1+1]? =some (.cells #[.slice a0 X.1.len c0,.slice a1 X.1.len c1,.slice a2 X.2.len c2,.slice a3 X.2.len c3] 187 (0,0)):=by
  rw[<-hW];have:=heap_alloc_new (World.alloc (World.alloc w (.cells #[.slice a0 X.1.len c0,.slice a2 X.2.len c2] 104)) (.cells #[.slice a1 X.1.len c1,.slice a3 X.2.len c3] 104)) (.cells #[.slice a0 X.1.len c0,.slice a1 X.1.len c1,.slice a2 X.2.len c2,.slice a3 X.2.len c3] 187);simpa using this
 have hz:w.heap.size+1+1<W.heap.size:=by rw[<-hW]; simp
 clear hW;have up:∀{v:Value} {T:Ts},TsV w S v T->TsV W (fun k=>S k\/k=w.heap.size+1+1) v T:=fun h=>h.keep (fun k hk q=>hb.block k q) (fun k q _=>.inl q);obtain⟨v0,v1,v2,v3⟩:=HV.out;have k0:W.cell? ⟨w.heap.size+1+1,0,none⟩=some (.slice a0 X.1.len c0):=by simp[World.cell?,hn]
 have k1:W.cell? ⟨w.heap.size+1+1,0+1,none⟩=some (.slice a1 X.1.len c1):=by simp[World.cell?,hn]
 have k2:W.cell? ⟨w.heap.size+1+1,0+2,none⟩=some (.slice a2 X.2.len c2):=by simp[World.cell?,hn]
 have k3:W.cell? ⟨w.heap.size+1+1,0+2+1,none⟩=some (.slice a3 X.2.len c3):=by simp[World.cell?,hn]
 refine(Yea (fun k=>S k\/k=w.heap.size+1+1) [(X.1,X.1),(X.2,X.2)] _ W ⟨some ⟨w.heap.size+1+1,0,none⟩,2,rfl,fun _=>⟨_,_,rfl,.inr rfl,Ye0 k0 k1 (up v0) (up v1) (Ye0 k2 k3 (up v2) (up v3) trivial)⟩⟩ ?_ (fun k hk=>hk.elim (fun h=>Nat.lt_of_lt_of_le (hS k h) hb.size) (fun h=>by rw[h]; exact hz)) Zs).mono ?_
 ·intro x hx;simp only[List.mem_cons,List.not_mem_nil,or_false] at hx;rcases hx with rfl | rfl
  ·exact⟨rfl,n1⟩
  ·exact⟨rfl,n2⟩
 rintro e w2 ⟨rfl,hb2⟩;have HB2:=Zh (hb.trans (hb2.mono hb.size));clear hb hb2 hn hz v0 v1 v2 v3 k0 k1 k2 k3 up;go_wp2;go_ret;exact⟨rfl,HB2.out⟩
theorem YiI (S:Nat->Prop)(P:List (Ts×Ts))(va vb:Value)(w:World)(hA:Y3 w S va P)(hB:Y3 w S vb P)(hfine:∀x∈P,x.1.nodes<=1000000000000/\x.2.nodes<=1000000000000)(hS:∀k,S k->k<w.heap.size)(hbig:P.length<=1000000000000):
 Calls Tryz.prog 119 #[va,vb,.func (.func 120) #[] #[]] w fun e w'=>e= .returned (.bool true)/\Below w.heap.size w w':=by
 obtain⟨ao,ca,rfl,hatA⟩:=hA;obtain⟨bo,cb,rfl,hatB⟩:=hB;go_enter Tryz.func119,Tryz.ntmps119;go_wp2_with fail;go_loopw [17] (fun i wr=>∃k:Nat,i= .int .i64 k/\k<=P.length/\Hid (Below w.heap.size w wr)) (fun i _=>P.length - (intOf i).toNat)
 case atStart=>exact⟨0,rfl,Nat.zero_le _,Zh (Below.refl _ _)⟩
 case round=>
  obtain⟨k,rfl,hk,HB⟩:=hrel;by_cases hkl:k<P.length
  ·have l0:decide ((k:Int)<(P.length:Int))=true:=Zt;have l1:decide (k<P.length)=true:=decide_eq_true hkl;have hne:P≠[]:=fun q=>by rw[q] at hkl; cases hkl
   obtain⟨ga,oa,rfl,hga,hata⟩:=hatA hne;obtain⟨gb,ob,rfl,hgb,hatb⟩:=hatB hne;have hgaw:=hS _ hga;have hgbw:=hS _ hgb;have hsz:=HB.out.size;obtain⟨⟨p0,c0,t0⟩,⟨p1,c1,t1⟩⟩:=Yba P ga oa k (Yah P ga oa (.inl hga) hata (fun k _ hk=>HB.out.block k hk) (fun k q _=>q)) hkl;obtain⟨⟨p2,c2,t2⟩,⟨p3,c3,t3⟩⟩:=Yba P gb ob k (Yah P gb ob (.inl hgb) hatb (fun k _ hk=>HB.out.block k hk) (fun k q _=>q)) hkl;obtain⟨f0,f1⟩:=hfine _ (List.getElem_mem hkl);have hE:=fun(W:World) (hb:Below wr.heap.size wr W)=>Yjv S P[k] p0 p1 p2 p3 W (t0.keep (w':=W) (fun k _ hk=>hb.block k hk) (fun _ q _=>q)) (t2.keep (w':=W) (fun k _ hk=>hb.block k hk) (fun _ q _=>q)) (t1.keep (w':=W) (fun k _ hk=>hb.block k hk) (fun _ q _=>q)) (t3.keep (w':=W) (fun k _ hk=>hb.block k hk) (fun _ q _=>q)) (fun k hk=>by have:=hS k hk; have:=hb.size; omega) f0 f1;obtain⟨a0,d0,rfl⟩:=t0.form;obtain⟨a1,d1,rfl⟩:=t1.form;obtain⟨a2,d2,rfl⟩:=t2.form;obtain⟨a3,d3,rfl⟩:=t3.form;have HE:=Zh hE;clear hE t0 t1 t2 t3 f0 f1 hata hatb;go_wp2_with (first
    |(
      refine wpList_store_row rfl 104 (.tmp 8) (.tmp 21) rfl wr.heap.size _ rfl rfl 104 #[.slice none 0 0,.slice none 0 0] (heap_alloc_new wr _) Yiv rfl (by simp[Value.oneCell']) ?_;obtain⟨hb1,hn1,hz1⟩:=YdG wr 104 #[.slice none 0 0,.slice none 0 0] #[.slice a0 P[k].1.len d0,.slice a1 P[k].2.len d1];have HZ1:=Zh hz1;clear hz1;generalize World.setRow (World.alloc wr _) _ _=V at hb1 hn1 HZ1⊢;have c2:=(hb1.cell (p:=⟨gb,ob+k*2,none⟩) (by show gb<_; omega)).trans c2;have c3:=(hb1.cell (p:=⟨gb,ob+k*2+1,none⟩) (by show gb<_; omega)).trans c3)
    |(
      refine wpList_store_row rfl 104 (.tmp 9) (.tmp 25) rfl V.heap.size _ rfl rfl 104 #[.slice none 0 0,.slice none 0 0] (heap_alloc_new V _) Yiv rfl (by simp[Value.oneCell']) ?_;obtain⟨hb2,hn2,hz2⟩:=YdG V 104 #[.slice none 0 0,.slice none 0 0] #[.slice a2 P[k].1.len d2,.slice a3 P[k].2.len d3];have HZ2:=Zh hz2;clear hz2;generalize World.setRow (World.alloc V _) _ _=V2 at hb2 hn2 HZ2⊢;obtain⟨r0,r1⟩:=row2 ((hb2.block _ (by have:=HZ1.out; omega)).trans hn1);obtain⟨r2,r3⟩:=row2 hn2))
   have hb12:=hb1.trans (hb2.mono (by have:=HZ1.out; omega));refine(HE.out V2 hb12).mono ?_;rintro e w3 ⟨rfl,hb3⟩;have HB3:=Zh (HB.out.trans ((hb12.trans (hb3.mono hb12.size)).mono hsz));clear HE hb1 hb2 hb12 hb3 hn1 hn2 r0 r1 r2 r3 c2 c3;go_wp2_with fail;go_roundw
   case rel=>exact⟨k+1,by go_num,by omega,HB3⟩
   case measure=>simp[intOf]; omega
  ·have l0:decide ((k:Int)<(P.length:Int))=false:=Zf;have l1:decide (k<P.length)=false:=decide_eq_false hkl;go_wp2_with fail;go_ret;exact⟨rfl,HB.out⟩
end Go.Proofs.YteamjdmhdfjopaaGreatDoor
