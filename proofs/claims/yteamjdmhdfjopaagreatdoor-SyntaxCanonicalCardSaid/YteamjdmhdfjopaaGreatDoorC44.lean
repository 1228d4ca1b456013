/- A part of the proof; it holds the texts Wry Can Wrz (names and blanks shortened). -/
import Derived.Test.YteamjdmhdfjopaaGreatDoorC42
import Derived.Test.YteamjdmhdfjopaaGreatDoorC43
import Derived.Test.YteamjdmhdfjopaaGreatDoorC33
import Derived.Test.YteamjdmhdfjopaaGreatDoorC36
import Derived.Test.YteamjdmhdfjopaaGreatDoorC35
import Derived.Test.YteamjdmhdfjopaaGreatDoorC32
import Derived.Test.YteamjdmhdfjopaaGreatDoorC26
namespace Go.Proofs.YteamjdmhdfjopaaGreatDoor
open Go.RowKit
set_option maxRecDepth 100000
set_option maxHeartbeats 8000000
set_option linter.unusedVariables false
set_option linter.unusedSimpArgs false
set_option linter.unnecessarySimpa false
section
open Go.RowKit Go.Shelf
attribute [local go_sem] Oper.semAt_some
def Yjk (x:Yu):Bool:=!x.2.1.isEmpty&&(decide (x.2.1.length<=1000000000)&&(x.2.1.all (fun s=>decide (s.size<=10000000))&&(decide (0<=x.1)&&(decide (x.1<=1000000)&&decide ((YbN ⟨#[32]⟩ (YbL x.2.1 x.2.2)).size<=100000000000)))))
theorem Ync {x:Yu}(h:Yjk x=true):YkT Y1 x:=by
 simp only[Yjk,Bool.and_eq_true,decide_eq_true_eq,List.all_eq_true] at h;obtain⟨h1,h2,h3,h4,h5,h6⟩:=h;refine⟨fun e=>by rw[e] at h1; simp at h1,h2,h3,⟨x.1.toNat,by omega,by omega⟩,h6⟩
theorem YjI:(JP.funcs.all fun f=>(f.sents.linesB 2).all Yjk)=true:=by decide+kernel
theorem Yn4:YpB JP:=by
 intro f hf;have hl:=YjI;rw[List.all_eq_true] at hl;have hx:=hl f hf;rw[List.all_eq_true] at hx;refine⟨?_,?_,?_,?_,fun x hx'=>Ync (hx x hx')⟩
 ·simp only[JP,List.mem_singleton] at hf;subst hf;simp only[Ss.okS,YcK,Ss.len];exact⟨⟨by decide+kernel,by decide+kernel,by decide+kernel⟩,⟨by simp,by simp⟩,⟨by decide+kernel,by decide+kernel,by decide+kernel⟩,⟨by decide+kernel,by decide+kernel,by decide+kernel⟩,⟨trivial,by decide⟩,⟨by decide+kernel,by decide+kernel,by decide+kernel⟩,⟨by simp,by simp⟩,⟨by decide+kernel,by decide+kernel,by decide+kernel⟩,⟨by decide+kernel,by decide+kernel,by decide+kernel⟩,⟨trivial,by decide⟩,trivial⟩
 ·simp only[JP,List.mem_singleton] at hf;subst hf;decide
 ·simp only[JP,List.mem_singleton] at hf;subst hf;decide
 ·simp only[JP,List.mem_singleton] at hf;subst hf;decide
def YpU:ByteArray:=⟨#[70,32,123,10,32,32,115,46,49,32,101,46,50,32,61,32,60,70,32,101,46,50,62,32,39,97,39,59,10,32,32,61,59,10,125,10]⟩
theorem YjH:YfC Y1 JP=(YpU,0):=by decide+kernel
theorem Yn3:(YfD Y1 JP).length<=100000000000:=by decide+kernel
theorem YiR (m:Md)(ve vf:Value)(w:World)(hm:MdV w (fun _=>True) ve vf m)(hfine:m.fine)(hok:Yat m=0->YpB m)(hsize:(YfD Y1 m).length<=100000000000):
 Calls Tryz.prog 25 #[.agg #[ve,vf]] w (Yrf w (YfC Y1 m)):=by
 obtain⟨ae,ce,rfl,he⟩:=id hm.1;obtain⟨af,cf,rfl,hf⟩:=id hm.2;obtain⟨W0,hW0⟩:∃W0,W0=w.alloc (.cells #[.slice ae m.externs.length ce,.slice af m.funcs.length cf] 26):=⟨_,rfl⟩;have hb:Below w.heap.size w W0:=by rw[hW0]; exact below_alloc1 _ _
 have hn:W0.heap[w.heap.size]? =some (.cells #[.slice ae m.externs.length ce,.slice af m.funcs.length cf] 26 (0,0)):=by rw[hW0]; exact heap_alloc_new _ _
 have c0:W0.cell? ⟨w.heap.size,0,none⟩=some (.slice ae m.externs.length ce):=by simp[World.cell?,hn]
 have c1:W0.cell? ⟨w.heap.size,1,none⟩=some (.slice af m.funcs.length cf):=by simp[World.cell?,hn]
 have HT:=Zh (Yov m _ _ W0 (hm.keep (fun k _ hk=>hb.block k hk) (fun _ _ _=>trivial)) hfine hok hsize);have HB:=Zh hb;have HW:=Zh hW0;clear he hf hb hn hW0 hm;go_enter Tryz.func25,Tryz.ntmps25;go_upto_region 1 with(fail)
 rw[<-HW.out];go_wp2_with fail;refine HT.out.mono ?_;rintro e w1 ⟨rfl,hb1⟩;have HB1:=Zh (HB.out.trans (hb1.mono HB.out.size));clear hb1;generalize YfC Y1 m=R at*;go_wp2;go_ret2
 exact⟨rfl,HB1.out⟩
end
theorem YqP (l:List Tk):∀(k:Nat) (h:k<(l.map tiOf).length),(Y4 l)[k*3]? =some (.int .i64 (l.map tiOf)[k].kind)/\(Y4 l)[k*3+1]? =some (.string (l.map tiOf)[k].text)/\(Y4 l)[k*3+2]? =some (.int .i64 (l.map tiOf)[k].at_):=by
 induction l with
 |nil=>intro k h; simp at h
 |
  cons x l ih=>
  intro k h;cases k with
  |zero=>simp[Y4,tiOf]
  |
   succ k=>
   obtain⟨a,b,c⟩:=ih k (by simpa using h);simp only[Y4,List.flatMap_cons] at a b c⊢;refine⟨?_,?_,?_⟩
   ·rw[show(k+1)*3=k*3+3 by omega]; simpa using a
   ·rw[show(k+1)*3+1=k*3+1+3 by omega]; simpa using b
   ·rw[show(k+1)*3+2=k*3+2+3 by omega]; simpa using c
theorem You {B:Nat}{e:TypeId}{v:Value}{l:List Tk}{w:World}(h:w.ownsRow B e 3 v l.length (Y4 l)):∃ao cap,v= .slice ao l.length cap/\YqF ao (l.map tiOf) w:=by
 have hz:(l.map tiOf).length=l.length:=List.length_map ..;rcases h.2 with⟨e,h0⟩ | ⟨g,cap,cur,e,_,hh,_⟩
 ·exact⟨none,0,by rw[e,h0],fun hne=>absurd (List.length_eq_zero_iff.1 (hz.trans h0)) hne⟩
 ·refine⟨_,cap,e,fun _=>⟨g,0,rfl,(Zg hh).1,fun k hk=>?_⟩⟩;subst e;obtain⟨a,b,c⟩:=YqP l k hk;rw[hz] at hk;rw[Nat.zero_add];exact⟨(h.cellAt _ Zo).trans a,(h.cellAt _ Zo).trans b,(h.cellAt _ Zo).trans c⟩
theorem YkU {m:Md}(hm:Yat m=0):∃A F,YfC Y1 m=(A,F)/\((F=0/\A.size<=40000/\∃k,readB A= .ok m k)\/F=7):=by
 unfold YfC;rw[if_pos hm,YjS];unfold limB;rw[YbE];by_cases h:40000<(wText m).length
 ·rw[if_pos h]; exact⟨_,_,rfl,.inr rfl⟩
 ·rw[if_neg h];exact⟨_,_,rfl,.inl ⟨rfl,by rw[YbE]; omega,YkV hm Zo⟩⟩
theorem YhZ {s:ByteArray}{m:Md}{j:Nat}(h:readB s= .ok m j):∃L sp,Jr s= .ok L sp:=by
 unfold readB at h;split at h
 ·cases h
 ·rename_i l sp hs; exact⟨l,sp,hs⟩
def canS (A B C:ByteArray):Nat->ByteArray
 |0=>A
 |1=>B
 |_=>C
theorem YiT (s:ByteArray)(mx:Int)(w:World)(hm:w.cell? ⟨2,0,none⟩=some (.int .i64 mx))(hE:ErrT w)(hA:YiU w):
 Calls Tryz.prog 8 #[.string s] w fun e w'=>e= .returned (.bool true)/\Below w.heap.size w w':=by
 have hg:2<w.heap.size:=World.block_lt_of_cell? w _ hm;have hgE:3<w.heap.size:=World.block_lt_of_cell? w _ hE;have HA:=Zh hA;by_cases hlong:3000<s.size
 ·have g1:decide ((3000:Int)<(s.size:Int))=true:=Zt;have g2:decide (3000<s.size)=true:=decide_eq_true hlong;clear hE hm hA;go_enter Tryz.func8,Tryz.ntmps8;go_wp2_with fail;refine(HA.out w (Below.refl _ _)).mono ?_;rintro e w1 ⟨rfl,hb1⟩;go_wp2;go_ret;exact⟨rfl,hb1⟩
 have hs:s.size<=3000:=Zo;have g1:decide ((3000:Int)<(s.size:Int))=false:=Zf;have g2:decide (3000<s.size)=false:=decide_eq_false hlong;have hV:=Yl4;have HRd:=Zh (fun(x:ByteArray) (hx:x.size<=40000) (W:World) (hb:Below w.heap.size w W)=>Yhr hV x mx W hx ((hb.cell (p:=⟨2,0,none⟩) hg).trans hm) ((hb.cell (p:=⟨3,0,none⟩) hgE).trans hE));have HSt:=Zh (fun(W:World) (hb:Below w.heap.size w W)=>Yoa s mx W Zo ((hb.cell (p:=⟨2,0,none⟩) hg).trans hm) ((hb.cell (p:=⟨3,0,none⟩) hgE).trans hE));have HSc:=Zh (fun(W:World) (hb:Below w.heap.size w W)=>YkR s mx W Zo ((hb.cell (p:=⟨2,0,none⟩) hg).trans hm) ((hb.cell (p:=⟨3,0,none⟩) hgE).trans hE));have H1:=HRd.out s Zo w (Below.refl _ _);cases hr:readB s with
 |
  bad a c=>
  have hc:=Ygb s a c hr;have b0:(c != 0)=true:=by simpa using hc
  rw[hr] at H1;have H1:=Zh H1;clear hE hm hA HRd HSt HSc hr hV hc;go_enter Tryz.func8,Tryz.ntmps8;go_wp2_with fail;refine H1.out.mono ?_;rintro e w1 ⟨hb1,rfl⟩;have hb2:=hb1.trans ((below_alloc1 w1 (.cells #[.slice none 0 0,.slice none 0 0] 26)).mono hb1.size);have HB2:=Zh hb2;clear hb2 H1;go_wp2_with fail;refine(HA.out _ HB2.out).mono ?_;rintro e w2 ⟨rfl,hb3⟩;have HB3:=Zh (HB2.out.trans (hb3.mono HB2.out.size));clear HB2 hb1 hb3;go_wp2;go_ret;exact⟨rfl,HB3.out⟩
 |
  ok m j=>
  have hform:=Yh8 hr;have hfine:=Yh9 Zo hr;have hwt:=Yp7 hr;obtain⟨L,sp,hsc⟩:=YhZ hr;obtain⟨C,hj,hCz,hrC⟩:=Ynf hs hsc hr;have hrB:=Yla hsc hr;have hBz:(YT s sp).size<=40000:=by rw[YU]; omega
  obtain⟨A,F,hT,hAF⟩:=YkU hform;have hsm:=YdD hsc;have HW:=Zh (fun(ve vf:Value) (W:World) (hM:MdV W (fun _=>True) ve vf m)=>YiR m ve vf W hM hfine (fun _=>Ypa hform Zo) (Ymd Zo));rw[hT] at HW;have HJ:=Zh (fun(ao:Option Addr) (cap:Nat) (W:World) (hrow:YqF ao (L.map tiOf) W)=>Ypz (L.map tiOf) ao cap W hrow (fun x hx=>by obtain⟨y,hy,rfl⟩:=List.mem_map.1 hx; have:=hsm.2 y hy; show y.text.size<=_; omega) (by rw[List.length_map]; omega));rw[hj] at HJ;simp only[List.length_map] at HJ;rw[hr] at H1;have H1:=Zh H1;rw[hsc] at HSt HSc;have HR:Hid (∀k,k<3->¬(k=0/\F=7)->(canS A (YT s sp) C k).size<=40000/\∃j,readB (canS A (YT s sp) C k)= .ok m j):=by
   refine Zh fun k hk hnk=>?_;match k,hk with
   |
    0,_=>
    rcases hAF with⟨_,h2,h3⟩ | h
    ·exact⟨h2,h3⟩
    ·exact absurd ⟨rfl,h⟩ hnk
   |1,_=>exact⟨hBz,j,hrB⟩
   |2,_=>exact⟨hCz,j,hrC⟩
  have HF:Hid (F=0\/F=7):=Zh (hAF.imp (fun h=>h.1) id);have HFi:=Zh hfine;clear hE hm hA hr hV hform hfine hwt hsc hj hCz hrC hrB hBz hT hAF hsm hs hlong hg hgE;go_enter Tryz.func8,Tryz.ntmps8;go_wp2_with fail;refine H1.out.mono ?_;rintro e w1 ⟨hb1,ve,vf,rfl,hM1⟩;obtain⟨e1,f1⟩:=hM1;obtain⟨ae,ce,rfl,he1⟩:=e1;obtain⟨af,cf,rfl,hf1⟩:=f1;have HM1:Hid (MdV w1 (fun k=>w.heap.size<=k) (.slice ae m.externs.length ce) (.slice af m.funcs.length cf) m):=Zh ⟨⟨ae,ce,rfl,he1⟩,⟨af,cf,rfl,hf1⟩⟩;have n1:=heap_alloc_new w1 (.cells #[.slice ae m.externs.length ce,.slice af m.funcs.length cf] 26);have hA1:=below_alloc1 w1 (.cells #[.slice ae m.externs.length ce,.slice af m.funcs.length cf] 26);clear he1 hf1 H1;go_wp2_with fail;generalize World.alloc w1 _=w2 at n1 hA1⊢;have hb2:=hb1.trans (hA1.mono hb1.size);refine(HW.out _ _ w2 (HM1.out.keep (fun k _ hk=>hA1.block k hk) (fun _ _ _=>trivial))).mono ?_;rintro e w3 ⟨rfl,hb3⟩;have HK3:=Zh (hA1.trans (hb3.mono hA1.size));have HB3:=Zh (hb1.trans (HK3.out.mono hb1.size));have HN3:=Zh ((hb3.block _ (Zg n1).1).trans n1);clear n1 hA1 hb2 hb3 HW;go_wp2_with fail;refine(HSt.out w3 HB3.out).mono ?_;rintro e w4 ⟨hb4,rfl⟩;generalize YT s sp=B at HR⊢;have HB4:=Zh (HB3.out.trans (hb4.mono HB3.out.size));have HK4:=Zh (HK3.out.trans (hb4.mono HK3.out.size));have HN4:=Zh ((hb4.block _ (Zg HN3.out).1).trans HN3.out);clear HSt HB3 HK3 HN3 hb4;go_wp2_with fail;refine(HSc.out w4 HB4.out).mono ?_;rintro e w5 ⟨hb5,vo,rfl,hown,_⟩;obtain⟨ao,cap,rfl,hrow⟩:=You hown;have HB5:=Zh (HB4.out.trans (hb5.mono HB4.out.size));have HK5:=Zh (HK4.out.trans (hb5.mono HK4.out.size));have HN5:=Zh ((hb5.block _ (Zg HN4.out).1).trans HN4.out);have HJ2:=Zh (HJ.out ao cap w5 hrow);clear HSc HB4 HK4 HN4 hb5 hown hrow HJ;go_wp2_with fail;refine HJ2.out.mono ?_;rintro e w6 ⟨rfl,hb6⟩;have HB6:=Zh (HB5.out.trans (hb6.mono HB5.out.size));have HK6:=Zh (HK5.out.trans (hb6.mono HK5.out.size));have HN6:=Zh ((hb6.block _ (Zg HN5.out).1).trans HN5.out);clear HB5 HK5 HN5 hb6 HJ2;have hn:=heap_alloc_new w6 (.cells #[.string A,.string B,.string C] 9);have hA6:=below_alloc1 w6 (.cells #[.string A,.string B,.string C] 9);have HB7:=Zh (HB6.out.trans (hA6.mono HB6.out.size));have HK7:=Zh (HK6.out.trans (hA6.mono HK6.out.size));have HN7:=Zh ((hA6.block _ (Zg HN6.out).1).trans HN6.out);have HSN:=Zh hn;clear HB6 HK6 HN6 hn hA6;rcases HF.out with hF | hF
  ·have q1:(F != 0)=false:=by simpa using hF
   go_wp2_with fail;generalize World.alloc w6 _=w7 at HB7 HK7 HN7 HSN⊢;go_loopw [79] (fun i wr=>∃k:Nat,i= .int .i64 k/\k<=3/\Hid (Below w7.heap.size w7 wr)) (fun i _=>3 - (intOf i).toNat)
   case atStart=>exact⟨0,rfl,Nat.zero_le _,Zh (Below.refl _ _)⟩
   case round=>
    obtain⟨k,rfl,hk,HL⟩:=hrel;by_cases hk3:k<3
    ·have l0:decide ((k:Int)<(3:Int))=true:=Zt;have l1:decide (k<3)=true:=decide_eq_true hk3;have l2:(k:Int)<3:=Zo;have hcell:wr.cell? ⟨w6.heap.size,k,none⟩=some (.string (canS A B C k)):=by
      have e1:=(HL.out.block _ (Zg HSN.out).1).trans HSN.out;match k,hk3 with
      |0,_=>simp[World.cell?,e1,canS]
      |1,_=>simp[World.cell?,e1,canS]
      |2,_=>simp[World.cell?,e1,canS]
     have HR2:=Zh (HR.out k hk3);generalize canS A B C k=X at hcell HR2;by_cases hk0:k=0
     ·subst hk0;obtain⟨hXz,j2,hrX⟩:=HR2.out (fun q=>by have:=q.2; omega);have hbw:=HB7.out.trans (HL.out.mono HB7.out.size);have hRX:=HRd.out X hXz wr hbw;rw[hrX] at hRX;have HRX:=Zh hRX;have hNr:=(HL.out.block _ (Zg HN7.out).1).trans HN7.out;have HNr:=Zh hNr;have HKr:=Zh (HK7.out.trans (HL.out.mono HK7.out.size));have HSz:=Zh hbw.size;clear hXz hrX hbw hRX hNr HR2;go_wp2_with fail;refine HRX.out.mono ?_;rintro e w8 ⟨hb8,ue,uf,rfl,hM8⟩;obtain⟨e8,f8⟩:=hM8;obtain⟨be,de,rfl,he8⟩:=e8;obtain⟨bf,df,rfl,hf8⟩:=f8;have HM8:Hid (MdV w8 (fun k=>wr.heap.size<=k) (.slice be m.externs.length de) (.slice bf m.funcs.length df) m):=Zh ⟨⟨be,de,rfl,he8⟩,⟨bf,df,rfl,hf8⟩⟩;have hN8:=(hb8.block _ (Zg HNr.out).1).trans HNr.out;have hA8:=below_alloc1 w8 (.cells #[.slice be m.externs.length de,.slice bf m.funcs.length df] 26);have hN9:=(hA8.block _ (Zg hN8).1).trans hN8;have hlt8:w1.heap.size<w8.heap.size:=(Zg hN8).1;obtain⟨x0,x1⟩:=row2 hN8;have HK9:=Zh ((HKr.out.trans (hb8.mono HKr.out.size)).trans (hA8.mono (HKr.out.trans (hb8.mono HKr.out.size)).size));have HEq:=Zh (fun W (hW:W=w8.alloc (.cells #[.slice be m.externs.length de,.slice bf m.funcs.length df] 26))=>YbU m (.slice ae m.externs.length ce) (.slice af m.funcs.length cf) (.slice be m.externs.length de) (.slice bf m.funcs.length df) W (by
       subst hW;exact HM1.out.keep (fun k _ hk=>HK9.out.block k hk) (fun k _ hk=>Nat.lt_of_lt_of_le hk HK9.out.size)) (by
       subst hW;exact HM8.out.keep (fun k _ hk=>hA8.block k hk) (fun k _ hk=>Nat.lt_of_lt_of_le hk hA8.size)) HFi.out)
      have HB8:=Zh (HL.out.trans ((hb8.trans (hA8.mono hb8.size)).mono HL.out.size));clear he8 hf8 hb8 hN8 hN9 hA8 HRX;go_wp2_with fail;refine(HEq.out _ rfl).mono ?_;rintro e w9 ⟨rfl,hb9⟩;have HB9:=Zh (HB8.out.trans (hb9.mono HB8.out.size));clear hb9 HEq x0 x1;go_wp2_with fail;go_roundw
      case rel=>exact⟨1,by go_num,by omega,HB9⟩
      case measure=>simp[intOf]<;>omega
     ·have e0:((k:Int)==0)=false:=by simpa using hk0
      obtain⟨hXz,j2,hrX⟩:=HR2.out (fun q=>hk0 q.1);have hbw:=HB7.out.trans (HL.out.mono HB7.out.size);have hRX:=HRd.out X hXz wr hbw;rw[hrX] at hRX;have HRX:=Zh hRX;have hNr:=(HL.out.block _ (Zg HN7.out).1).trans HN7.out;have HNr:=Zh hNr;have HKr:=Zh (HK7.out.trans (HL.out.mono HK7.out.size));have HSz:=Zh hbw.size;clear hXz hrX hbw hRX hNr HR2;go_wp2_with fail;refine HRX.out.mono ?_;rintro e w8 ⟨hb8,ue,uf,rfl,hM8⟩;obtain⟨e8,f8⟩:=hM8;obtain⟨be,de,rfl,he8⟩:=e8;obtain⟨bf,df,rfl,hf8⟩:=f8;have HM8:Hid (MdV w8 (fun k=>wr.heap.size<=k) (.slice be m.externs.length de) (.slice bf m.funcs.length df) m):=Zh ⟨⟨be,de,rfl,he8⟩,⟨bf,df,rfl,hf8⟩⟩;have hN8:=(hb8.block _ (Zg HNr.out).1).trans HNr.out;have hA8:=below_alloc1 w8 (.cells #[.slice be m.externs.length de,.slice bf m.funcs.length df] 26);have hN9:=(hA8.block _ (Zg hN8).1).trans hN8;have hlt8:w1.heap.size<w8.heap.size:=(Zg hN8).1;obtain⟨x0,x1⟩:=row2 hN8;have HK9:=Zh ((HKr.out.trans (hb8.mono HKr.out.size)).trans (hA8.mono (HKr.out.trans (hb8.mono HKr.out.size)).size));have HEq:=Zh (fun W (hW:W=w8.alloc (.cells #[.slice be m.externs.length de,.slice bf m.funcs.length df] 26))=>YbU m (.slice ae m.externs.length ce) (.slice af m.funcs.length cf) (.slice be m.externs.length de) (.slice bf m.funcs.length df) W (by
       subst hW;exact HM1.out.keep (fun k _ hk=>HK9.out.block k hk) (fun k _ hk=>Nat.lt_of_lt_of_le hk HK9.out.size)) (by
       subst hW;exact HM8.out.keep (fun k _ hk=>hA8.block k hk) (fun k _ hk=>Nat.lt_of_lt_of_le hk hA8.size)) HFi.out)
      have HB8:=Zh (HL.out.trans ((hb8.trans (hA8.mono hb8.size)).mono HL.out.size));clear he8 hf8 hb8 hN8 hN9 hA8 HRX;go_wp2_with fail;refine(HEq.out _ rfl).mono ?_;rintro e w9 ⟨rfl,hb9⟩;have HB9:=Zh (HB8.out.trans (hb9.mono HB8.out.size));clear hb9 HEq x0 x1;go_wp2_with fail;go_roundw
      case rel=>exact⟨k+1,by go_num,by omega,HB9⟩
      case measure=>simp[intOf]<;>omega
    ·have l0:decide ((k:Int)<(3:Int))=false:=Zf;have l1:decide (k<3)=false:=decide_eq_false hk3;have hbw:=HB7.out.trans (HL.out.mono HB7.out.size);go_wp2_with fail;refine(HA.out wr hbw).mono ?_;rintro e w9 ⟨rfl,hb9⟩;have HB9:=Zh (hbw.trans (hb9.mono hbw.size));clear hbw hb9;go_wp2;go_ret;exact⟨rfl,HB9.out⟩
  ·have q1:(F != 0)=true:=by rw[hF]; rfl
   have q2:(F != 7)=false:=by simpa using hF
   go_wp2_with fail;generalize World.alloc w6 _=w7 at HB7 HK7 HN7 HSN⊢;go_loopw [79] (fun i wr=>∃k:Nat,i= .int .i64 k/\k<=3/\Hid (Below w7.heap.size w7 wr)) (fun i _=>3 - (intOf i).toNat)
   case atStart=>exact⟨0,rfl,Nat.zero_le _,Zh (Below.refl _ _)⟩
   case round=>
    obtain⟨k,rfl,hk,HL⟩:=hrel;by_cases hk3:k<3
    ·have l0:decide ((k:Int)<(3:Int))=true:=Zt;have l1:decide (k<3)=true:=decide_eq_true hk3;have l2:(k:Int)<3:=Zo;have hcell:wr.cell? ⟨w6.heap.size,k,none⟩=some (.string (canS A B C k)):=by
      have e1:=(HL.out.block _ (Zg HSN.out).1).trans HSN.out;match k,hk3 with
      |0,_=>simp[World.cell?,e1,canS]
      |1,_=>simp[World.cell?,e1,canS]
      |2,_=>simp[World.cell?,e1,canS]
     have HR2:=Zh (HR.out k hk3);generalize canS A B C k=X at hcell HR2;by_cases hk0:k=0
     ·subst hk0;clear HR2;go_wp2_with fail;go_roundw
      case rel=>exact⟨1,by go_num,by omega,HL⟩
      case measure=>simp[intOf]<;>omega
     ·have e0:((k:Int)==0)=false:=by simpa using hk0
      obtain⟨hXz,j2,hrX⟩:=HR2.out (fun q=>hk0 q.1);have hbw:=HB7.out.trans (HL.out.mono HB7.out.size);have hRX:=HRd.out X hXz wr hbw;rw[hrX] at hRX;have HRX:=Zh hRX;have hNr:=(HL.out.block _ (Zg HN7.out).1).trans HN7.out;have HNr:=Zh hNr;have HKr:=Zh (HK7.out.trans (HL.out.mono HK7.out.size));have HSz:=Zh hbw.size;clear hXz hrX hbw hRX hNr HR2;go_wp2_with fail;refine HRX.out.mono ?_;rintro e w8 ⟨hb8,ue,uf,rfl,hM8⟩;obtain⟨e8,f8⟩:=hM8;obtain⟨be,de,rfl,he8⟩:=e8;obtain⟨bf,df,rfl,hf8⟩:=f8;have HM8:Hid (MdV w8 (fun k=>wr.heap.size<=k) (.slice be m.externs.length de) (.slice bf m.funcs.length df) m):=Zh ⟨⟨be,de,rfl,he8⟩,⟨bf,df,rfl,hf8⟩⟩;have hN8:=(hb8.block _ (Zg HNr.out).1).trans HNr.out;have hA8:=below_alloc1 w8 (.cells #[.slice be m.externs.length de,.slice bf m.funcs.length df] 26);have hN9:=(hA8.block _ (Zg hN8).1).trans hN8;have hlt8:w1.heap.size<w8.heap.size:=(Zg hN8).1;obtain⟨x0,x1⟩:=row2 hN8;have HK9:=Zh ((HKr.out.trans (hb8.mono HKr.out.size)).trans (hA8.mono (HKr.out.trans (hb8.mono HKr.out.size)).size));have HEq:=Zh (fun W (hW:W=w8.alloc (.cells #[.slice be m.externs.length de,.slice bf m.funcs.length df] 26))=>YbU m (.slice ae m.externs.length ce) (.slice af m.funcs.length cf) (.slice be m.externs.length de) (.slice bf m.funcs.length df) W (by
       subst hW;exact HM1.out.keep (fun k _ hk=>HK9.out.block k hk) (fun k _ hk=>Nat.lt_of_lt_of_le hk HK9.out.size)) (by
       subst hW;exact HM8.out.keep (fun k _ hk=>hA8.block k hk) (fun k _ hk=>Nat.lt_of_lt_of_le hk hA8.size)) HFi.out)
      have HB8:=Zh (HL.out.trans ((hb8.trans (hA8.mono hb8.size)).mono HL.out.size));clear he8 hf8 hb8 hN8 hN9 hA8 HRX;go_wp2_with fail;refine(HEq.out _ rfl).mono ?_;rintro e w9 ⟨rfl,hb9⟩;have HB9:=Zh (HB8.out.trans (hb9.mono HB8.out.size));clear hb9 HEq x0 x1;go_wp2_with fail;go_roundw
      case rel=>exact⟨k+1,by go_num,by omega,HB9⟩
      case measure=>simp[intOf]<;>omega
    ·have l0:decide ((k:Int)<(3:Int))=false:=Zf;have l1:decide (k<3)=false:=decide_eq_false hk3;have hbw:=HB7.out.trans (HL.out.mono HB7.out.size);go_wp2_with fail;refine(HA.out wr hbw).mono ?_;rintro e w9 ⟨rfl,hb9⟩;have HB9:=Zh (hbw.trans (hb9.mono hbw.size));clear hbw hb9;go_wp2;go_ret;exact⟨rfl,HB9.out⟩
section
open Go.RowKit Go.Shelf
attribute [local go_sem] Oper.semAt_some
theorem Ykq {r:Rd Md}{m:Md}(h:Yqk r m=true):YhA r=(m,0,0):=by
 cases r with
 |ok x j=>simp[Yqk] at h; subst h; rfl
 |bad a c=>cases h
theorem Ynq {r:Rd Md}{a:Nat}{c:Int}(h:Ynr r a c=true):YhA r=(⟨[],[]⟩,(a:Int),c):=by
 cases r with
 |ok x j=>cases h
 |bad x y=>simp[Ynr] at h; obtain⟨rfl,rfl⟩:=h; rfl
theorem Yn6 (m:Int)(w:World)(hm:w.cell? ⟨2,0,none⟩=some (.int .i64 m))(hE:ErrT w):YiU w:=by
 intro W hW;have hg:2<w.heap.size:=World.block_lt_of_cell? w _ hm;have hgE:3<w.heap.size:=World.block_lt_of_cell? w _ hE;have hV:=Yl4;have H1:=Zh (fun(X:World) (hb:Below w.heap.size w X)=>Yhr hV YkN m X (by decide+kernel) ((hb.cell (p:=⟨2,0,none⟩) hg).trans hm) ((hb.cell (p:=⟨3,0,none⟩) hgE).trans hE));have H2:=Zh (fun(X:World) (hb:Below w.heap.size w X)=>Yhr hV Yn7 m X (by decide+kernel) ((hb.cell (p:=⟨2,0,none⟩) hg).trans hm) ((hb.cell (p:=⟨3,0,none⟩) hgE).trans hE));have HT1:=Zh (Ykq YgB);have HT2:=Zh (Ynq Yn5);have HFI:Hid JP.fine:=Zh (by have:=Yl6 (s:=YkN) (by decide+kernel); rwa [Ykq YgB] at this);have HW:=Zh hW;clear hm hE hg hgE hV hW;unfold YkN at H1;unfold Yn7 at H2;go_enter Tryz.func10,Tryz.ntmps10;go_wp2_with fail;refine(H1.out W HW.out).mono ?_;intro e w1 hP;obtain⟨hb1,ve,vf,rfl,hM1⟩:=Yh6 hP;have e1:YhA (readB ⟨#[70,32,123,32,115,46,49,32,101,46,50,32,61,32,60,70,32,101,46,50,62,32,39,97,39,59,32,61,32,59,32,125]⟩)=(JP,0,0):=HT1.out;rw[e1] at hM1⊢;clear e1;dsimp only at hM1⊢;obtain⟨⟨ae,ce,rfl,he1⟩,⟨af,cf,rfl,hf1⟩⟩:=hM1;obtain⟨w2,hw2⟩:∃w2,w2=w1.alloc (.cells #[.slice ae JP.externs.length ce,.slice af JP.funcs.length cf] 26):=⟨_,rfl⟩;have hb2:Below w1.heap.size w1 w2:=by rw[hw2]; exact below_alloc1 _ _
 have hn2:w2.heap[w1.heap.size]? =some (.cells #[.slice ae JP.externs.length ce,.slice af JP.funcs.length cf] 26 (0,0)):=by rw[hw2]; exact heap_alloc_new _ _
 have hM2:MdV w2 (fun _=>True) (.slice ae JP.externs.length ce) (.slice af JP.funcs.length cf) JP:=MdV.keep (S:=fun k=>W.heap.size<=k) ⟨⟨ae,ce,rfl,he1⟩,⟨af,cf,rfl,hf1⟩⟩ (fun k _ hk=>hb2.block k hk) (fun _ _ _=>trivial);have HWR:=Zh (YiR JP _ _ w2 hM2 HFI.out (fun _=>Yn4) Yn3);have HWB:=Zh (hb1.trans (hb2.mono hb1.size));have HW2:=Zh hw2;have c0:w2.cell? ⟨w1.heap.size,0,none⟩=some (.slice ae JP.externs.length ce):=by simp[World.cell?,hn2]
 have c1:w2.cell? ⟨w1.heap.size,1,none⟩=some (.slice af JP.funcs.length cf):=by simp[World.cell?,hn2]
 clear hP hb1 he1 hf1 hb2 hn2 hM2 hw2;go_upto_region 2 with(fail)
 rw[<-HW2.out];go_wp2_with fail;refine HWR.out.mono ?_;intro e w3 hP;rw[YjH] at hP;obtain⟨rfl,hb3⟩:=hP;have HB3:=Zh (HWB.out.trans (hb3.mono HWB.out.size));clear hb3 c0 c1;unfold YpU;dsimp only;go_wp2_with fail;refine(H2.out w3 (HW.out.trans (HB3.out.mono HW.out.size))).mono ?_;intro e w4 hP;obtain⟨hb4,ve,vf,rfl,hM4⟩:=Yh6 hP;have e1:YhA (readB ⟨#[70,32,123,32,60,71,62,32,61,32,59,32,125]⟩)=(⟨[],[]⟩,4,52):=HT2.out;rw[e1] at hM4⊢;clear e1;dsimp only at hM4⊢;obtain⟨⟨be,de,rfl,he4⟩,⟨bf,df,rfl,hf4⟩⟩:=hM4;have hA:=below_alloc1 w4 (.cells #[.slice be ([]:List ByteArray).length de,.slice bf ([]:List Fn).length df] 26);have HB4:=Zh (HB3.out.trans ((hb4.trans (hA.mono hb4.size)).mono HB3.out.size));clear hP hb4 he4 hf4 hA;go_wp2_with fail;go_ret;exact⟨rfl,HB4.out⟩
end
end Go.Proofs.YteamjdmhdfjopaaGreatDoor
