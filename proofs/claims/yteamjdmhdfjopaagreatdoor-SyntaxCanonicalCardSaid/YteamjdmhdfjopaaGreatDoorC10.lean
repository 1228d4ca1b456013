/- A part of the proof; it holds the texts Bx Rg Sq Sr Tcd Esc Ss Bld (names and blanks shortened). -/
import Derived.Test.YteamjdmhdfjopaaGreatDoorC9
import Derived.Test.YteamjdmhdfjopaaGreatDoorC1
import Derived.Test.YteamjdmhdfjopaaGreatDoorProg
import Derived.Test.YteamjdmhdfjopaaGreatDoorC2
import Derived.Test.YteamjdmhdfjopaaGreatDoorCS
import Derived.OwnWalk
import Derived.Lib.DecodeN
import Derived.Lib.Builder
import Derived.Lib.AppendStr
import Derived.Laws.Externs
namespace Go.Proofs.YteamjdmhdfjopaaGreatDoor
open Go.RowKit
set_option maxRecDepth 100000
set_option maxHeartbeats 8000000
set_option linter.unusedVariables false
set_option linter.unusedSimpArgs false
def Has (s:ByteArray)(i:Nat)(l:List UInt8):Prop:=l<+:s.data.toList.drop i
theorem Yqr (s:ByteArray)(i:Nat):Has s i []:=List.nil_prefix
theorem YN {s:ByteArray}{i:Nat}{x:UInt8}{l:List UInt8}:Has s i (x::l)↔i<s.size/\bu s i=x/\Has s (i+1) l:=by
 unfold Has;constructor
 ·intro h;have hi:i<s.size:=by
   rcases Nat.lt_or_ge i s.size with q | q
   ·exact q
   ·rw[drop_end q] at h; exact absurd (List.prefix_nil.1 h) Zs
  rw[drop_cons hi,List.cons_prefix_cons] at h;refine⟨hi,?_,h.2⟩;unfold bu; rw[dif_pos hi]; exact h.1.symm
 ·rintro⟨hi,hb,h⟩;rw[drop_cons hi,List.cons_prefix_cons];refine⟨?_,h⟩;unfold bu at hb; rw[dif_pos hi] at hb; exact hb.symm
theorem YdT {s:ByteArray}:∀{a:List UInt8} {i:Nat} {b:List UInt8},Has s i (a++b)↔Has s i a/\Has s (i+a.length) b
 |[],i,b=>by simp[Yqr]
 |
  x::a,i,b=>by
  rw[List.cons_append,YN,YN,YdT,List.length_cons,show i+1+a.length=i+(a.length+1) by omega];simp only[and_assoc]
theorem Yiz {s:ByteArray}:∀{l:List UInt8} {i:Nat},Has s i l->i<=s.size->i+l.length<=s.size
 |[],i,_,h=>by simpa using h
 |
  x::l,i,h,_=>by
  obtain⟨h1,_,h3⟩:=YN.1 h;have:=Yiz h3 h1;simp only[List.length_cons]; omega
theorem YcD {s:ByteArray}:∀{l:List UInt8} {i:Nat},Has s i l->∀(j:Nat) (hj:j<l.length),bt s (i+j)=(l[j].toNat:Int)
 |[],i,_,j,hj=>by simp at hj
 |
  x::l,i,h,j,hj=>by
  obtain⟨h1,h2,h3⟩:=YN.1 h;cases j with
  |zero=>rw[Nat.add_zero,YaE,h2]; rfl
  |
   succ j=>
   rw[show i+(j+1)=i+1+j by omega,YcD h3 j (by simpa using hj)]; rfl
theorem Yhi {s t:ByteArray}{i:Nat}(h:Has s i t.data.toList)(j:Nat)(hj:j<t.size):bt s (i+j)=bt t j:=by
 have hl:t.data.toList.length=t.size:=Array.length_toList;rw[YcD h j Zo,<-Je hj,Array.getElem_toList]; rfl
theorem Yjp {s t:ByteArray}{i:Nat}(h:Has s i t.data.toList)(hi:i<=s.size):s.extract i (i+t.size)=t:=by
 have hl:t.data.toList.length=t.size:=Array.length_toList;have hle:=Yiz h hi;apply ByteArray.ext_getElem
 ·rw[ByteArray.size_extract]; omega
 ·intro j h1 h2;have e:=Yhi h j h2;rw[ByteArray.getElem_extract];rw[<-Je h2,<-Je (show i+j<s.size by omega)] at e;exact UInt8.toNat_inj.1 Zo
theorem Yf9 {s:ByteArray}{p:Int->Bool}:∀{n i:Nat},(∀j,j<n->p (bt s (i+j))=true)->i+n<=s.size->¬(i+n<s.size/\p (bt s (i+n))=true)->Yf s p i=i+n
 |0,i,_,_,h3=>YD h3
 |
  n+1,i,h1,h2,h3=>by
  have h0:=h1 0 Zo;rw[Nat.add_zero] at h0;rw[YE Zo h0,Yf9 (n:=n) (i:=i+1) (fun j hj=>by rw[show i+1+j=i+(j+1) by omega]; exact h1 (j+1) Zo) Zo (by rw[show i+1+n=i+(n+1) by omega]; exact h3)];omega
theorem Ygz:∀i:Fin 256,(match Yfw 39 (UInt8.ofNat i.val) with | some e=>decide (escF 39 e.toNat=some (i.val:Int)) | none=>decide (¬i.val=39/\¬i.val=92))=true:=by decide+kernel
theorem YgA:∀i:Fin 256,(match Yfw 34 (UInt8.ofNat i.val) with | some e=>decide (escF 34 e.toNat=some (i.val:Int)) | none=>decide (¬i.val=34/\¬i.val=92))=true:=by decide+kernel
theorem Yo4:∀i:Fin 256,hexv (hexd (i.val / 16)).toNat=some ((i.val / 16:Nat):Int)/\hexv (hexd (i.val%16)).toNat=some ((i.val%16:Nat):Int)/\hex2 ((i.val / 16:Nat):Int) ((i.val%16:Nat):Int)=UInt8.ofNat i.val:=by decide+kernel
theorem YnY {mark b e:UInt8}(hm:mark=39\/mark=34)(h:Yfw mark b=some e):escF mark.toNat e.toNat=some (b.toNat:Int):=by
 rcases hm with rfl | rfl
 ·have:=Ygz ⟨b.toNat,b.toNat_lt⟩;dsimp only at this;rw[UInt8.ofNat_toNat,h] at this;simpa using this
 ·have:=YgA ⟨b.toNat,b.toNat_lt⟩;dsimp only at this;rw[UInt8.ofNat_toNat,h] at this;simpa using this
theorem YnZ {mark b:UInt8}(hm:mark=39\/mark=34)(h:Yfw mark b=none):¬b.toNat=mark.toNat/\¬b.toNat=92:=by
 rcases hm with rfl | rfl
 ·have:=Ygz ⟨b.toNat,b.toNat_lt⟩;dsimp only at this;rw[UInt8.ofNat_toNat,h] at this;simpa using this
 ·have:=YgA ⟨b.toNat,b.toNat_lt⟩;dsimp only at this;rw[UInt8.ofNat_toNat,h] at this;simpa using this
theorem Ydb {s:ByteArray}{mark:UInt8}(hm:mark=39\/mark=34):∀(tl:List UInt8) (i n:Nat) (out:List UInt8),(mark=34->∀b∈tl,JB b.toNat=true)->Has s i (tl.flatMap (escB mark)++[mark])->tl.length<n->
 quoN s mark.toNat n i out= .ok (out++tl) (i+(tl.flatMap (escB mark)).length+1)
 |[],i,0,out,_,_,hn=>by simp at hn
 |b::tl,i,0,out,_,_,hn=>by simp at hn
 |
  [],i,n+1,out,_,h,_=>by
  have h1:=(YN.1 h).2.1;rw[quoN,if_pos (by rw[YaE]; rw[show bu s i=mark from h1])];simp
 |
  b::tl,i,n+1,out,hw,h,hn=>by
  have hw2:mark=34->∀b∈tl,JB b.toNat=true:=fun e x hx=>hw e x (List.mem_cons_of_mem _ hx);have hm92:¬(92:Int)=mark.toNat:=by rcases hm with rfl | rfl<;>decide
  rw[List.flatMap_cons,List.append_assoc] at h;obtain⟨h1,h2⟩:=YdT.1 h;rw[List.flatMap_cons,List.length_append];cases hb:Yfw mark b with
  |
   some e=>
   have hesc:escB mark b=[92,e]:=by unfold escB; rw[hb]
   rw[hesc] at h1 h2⊢;have b0:=YcD h1 0 Zs;have b1:=YcD h1 1 Zs;have hi:=(YN.1 h1).1;rw[Nat.add_zero] at b0;have b0':bt s i=92:=b0;have b1':bt s (i+1)=(e.toNat:Int):=b1;have he:=YnY hm hb;rw[<-b1'] at he;rw[<-Yjf (R:=quoN s mark.toNat (n+1) i out) rfl (by rw[b0']; exact hm92) (by rw[b0']; omega) b0' he];have hbb:((b.toNat:Int)).toNat.toUInt8=b:=Zs;rw[hbb,Ydb hm tl (i+2) n (out++[b]) hw2 h2 (by simpa using hn)];simp only[List.append_assoc,List.cons_append,List.nil_append,List.length_cons,List.length_nil];congr 1; omega
  |
   none=>
   obtain⟨hne,h92⟩:=YnZ hm hb;by_cases hr:b.toNat<32\/126<b.toNat
   ·have hesc:escB mark b=[92,120,hexd (b.toNat / 16),hexd (b.toNat%16)]:=by
     unfold escB; rw[hb]; show(if _ then _ else _)=_; rw[if_pos hr]
    rw[hesc] at h1 h2⊢;have h39:mark=39:=by
     rcases hm with e | e
     ·exact e
     ·have:=hw e b Zs;unfold JB at this;simp only[Bool.and_eq_true,decide_eq_true_eq] at this;omega
    have hi:=(YN.1 h1).1;have b0:bt s i=92:=by have:=YcD h1 0 Zs; rw[Nat.add_zero] at this; exact this
    have b1:bt s (i+1)=120:=YcD h1 1 Zs;have b2:bt s (i+2)=((hexd (b.toNat / 16)).toNat:Int):=YcD h1 2 Zs;have b3:bt s (i+3)=((hexd (b.toNat%16)).toNat:Int):=YcD h1 3 Zs;obtain⟨x1,x2,x3⟩:=Yo4 ⟨b.toNat,b.toNat_lt⟩;dsimp only at x1 x2 x3;rw[<-b2] at x1;rw[<-b3] at x2;have hem:escF mark.toNat (bt s (i+1))=none:=by rw[b1,h39]; decide
    rw[<-YmK (R:=quoN s mark.toNat (n+1) i out) rfl (by rw[b0]; exact hm92) (by rw[b0]; omega) b0 hem (by rw[h39]; decide) b1 x1 x2];rw[x3,UInt8.ofNat_toNat,Ydb hm tl (i+4) n (out++[b]) hw2 h2 (by simpa using hn)];simp only[List.append_assoc,List.cons_append,List.nil_append,List.length_cons,List.length_nil];congr 1; omega
   ·have hesc:escB mark b=[b]:=by
     unfold escB; rw[hb]; show(if _ then _ else _)=_; rw[if_neg hr]
    rw[hesc] at h1 h2⊢;have hi:=(YN.1 h1).1;have b0:bt s i=(b.toNat:Int):=by have:=YcD h1 0 Zs; rw[Nat.add_zero] at this; exact this
    have bb:bu s i=b:=(YN.1 h1).2.1;rw[<-YeY (R:=quoN s mark.toNat (n+1) i out) rfl (by rw[b0]; omega) (by rw[b0]; omega) (by rw[b0]; omega)];rw[bb,Ydb hm tl (i+1) n (out++[b]) hw2 h2 (by simpa using hn)];simp only[List.append_assoc,List.cons_append,List.nil_append,List.length_cons,List.length_nil];congr 1; omega
theorem JF {s:ByteArray}{i:Nat}(P:Int->Bool)(h:∀x:Fin 256,P (x.val:Int)=true):P (bt s i)=true:=by
 have h1:=Yan s i;have h2:=YaU s i;have:=h ⟨(bt s i).toNat,by omega⟩;rwa [show(((bt s i).toNat:Nat):Int)=bt s i by omega] at this
def Ye4 (c:Int):Bool:=cls c.toNat==2||cls c.toNat==3||c==45||c==95||c==46
theorem Ya0 (s:ByteArray)(i:Nat):Ycr s i=(decide (i<s.size)&&Ye4 (bt s i)):=rfl
theorem Yii:∀x:Fin 256,(!inner Yj (x.val:Int)||Ye4 x.val)=true:=by decide+kernel
theorem Ym0:∀x:Fin 256,(!inner Js (x.val:Int)||Ye4 x.val)=true:=by decide+kernel
theorem YoU:∀x:Fin 256,(!(cls (x.val:Int).toNat==3)||Ye4 x.val)=true:=by decide+kernel
theorem Ydc {s:ByteArray}{e:Nat}(p:Int->Bool)(hp:∀x:Fin 256,(!p (x.val:Int)||Ye4 x.val)=true)(h:Ycr s e=false):¬(e<s.size/\p (bt s e)=true):=by
 rintro⟨h1,h2⟩;rw[Ya0,decide_eq_true h1,Bool.true_and] at h;have:=JF (s:=s) (i:=e) (fun c=>!p c||Ye4 c) hp;simp only[h2,h,Bool.not_true,Bool.or_false] at this;cases this
theorem Yju (mark:UInt8):∀l:List UInt8,l.length<=(l.flatMap (escB mark)).length
 |[]=>by simp
 |
  x::l=>by
  rw[List.flatMap_cons,List.length_append,List.length_cons];have h1:1<=(escB mark x).length:=by
   unfold escB;split
   ·simp
   ·split<;>simp
  have:=Yju mark l;omega
theorem Ygc {s t:ByteArray}{i:Nat}{mark:UInt8}(hi:i<s.size)(h:Has s i (YX mark t).data.toList):
 bt s i=mark.toNat/\Has s (i+1) (t.data.toList.flatMap (escB mark)++[mark])/\t.data.toList.length<s.size - i/\(YX mark t).size=(t.data.toList.flatMap (escB mark)).length+2:=by
 have h':Has s i (mark::(t.data.toList.flatMap (escB mark)++[mark])):=by
  have:(YX mark t).data.toList=mark::(t.data.toList.flatMap (escB mark)++[mark]):=by simp[YX,Yaa]
  rwa [this] at h
 obtain⟨h1,h2,h3⟩:=YN.1 h';have hle:=Yiz h3 h1;have hge:=Yju mark t.data.toList;rw[List.length_append] at hle;simp only[List.length_cons,List.length_nil] at hle;refine⟨by rw[YaE,h2],h3,by omega,?_⟩;show(Yaa mark t).toArray.size=_;rw[List.size_toArray];simp[Yaa]
theorem YqT {k:Int}{t:ByteArray}(h:chkB k t=0):okB k t=true:=by
 unfold chkB at h;by_cases e:okB k t=true
 ·exact e
 ·rw[if_neg e] at h; cases h
theorem Yie {t:ByteArray}(h:Y8 t=true):1<=t.size/\(∀j,1<=j->j<t.size->cls (bt t j).toNat=3)/\(cls (bt t 0).toNat=3\/(bt t 0=45/\2<=t.size)):=by
 rw[<-Ynn] at h;unfold Yno at h;rw[Bool.or_eq_true] at h;rcases h with h | h
 ·have hs:t=⟨#[48]⟩:=Yco (by rw[<-Lib.toList_data]; simpa using h);subst hs;refine⟨by decide,fun j h1 h2=>?_,.inl Zd⟩;have:(⟨#[48]⟩:ByteArray).size=1:=rfl;omega
 ·unfold Ynp numT at h;by_cases h45:bt t 0=45
  ·rw[if_pos h45] at h;simp only[Bool.and_eq_true,decide_eq_true_eq] at h;obtain⟨⟨⟨h1,h2⟩,h3⟩,_⟩:=h;rw[ext_size] at h1;have h4:=(Yv _ digP _ 0 rfl (Nat.zero_le _)).1 h3;refine⟨by omega,fun j hj1 hj2=>?_,.inr ⟨h45,by omega⟩⟩;have:=h4 (j - 1) (Nat.zero_le _) (by rw[ext_size]; omega);rw[YnV,show 1+(j - 1)=j by omega] at this;unfold digP at this;exact beq_iff_eq.1 this
  ·rw[if_neg h45] at h;simp only[Bool.and_eq_true,decide_eq_true_eq] at h;obtain⟨⟨⟨h1,h2⟩,h3⟩,_⟩:=h;have h4:=(Yv _ digP _ 0 rfl (Nat.zero_le _)).1 h3;have hd:∀j,j<t.size->cls (bt t j).toNat=3:=fun j hj=>by
    have:=h4 j (Nat.zero_le _) hj;unfold digP at this;exact beq_iff_eq.1 this
   exact⟨by omega,fun j _ hj=>hd j hj,.inl (hd 0 Zo)⟩
theorem YdX:∀x:Fin 256,(!(cls (x.val:Int).toNat==2)||(!((x.val:Int)==39)&&!((x.val:Int)==34)&&inner Yj x.val&&inner Js x.val))=true:=by decide+kernel
theorem YnR:∀x:Fin 256,(!(cls (x.val:Int).toNat==3||(x.val:Int)==45)||(!((x.val:Int)==39)&&!((x.val:Int)==34)&&!(cls (x.val:Int).toNat==4)&&!(cls (x.val:Int).toNat==2)&&!steB x.val))=true:=by decide+kernel
theorem Ypi:∀x:Fin 256,(!(cls (x.val:Int).toNat==4)||(!((x.val:Int)==39)&&!((x.val:Int)==34)))=true:=by decide+kernel
theorem Yf1:∀x:Fin 256,(!steB (x.val:Int)||cls (x.val:Int).toNat==2)=true:=by decide+kernel
theorem Ynu:∀x:Fin 256,(!inner Yj (x.val:Int)||!((x.val:Int)==46))=true:=by decide+kernel
theorem Ybn {k:Int}{t:ByteArray}(h1:¬k=1)(h2:¬k=2):YS k t=t:=by unfold YS; rw[if_neg h1,if_neg h2]
theorem YjQ {s:ByteArray}{i:Nat}{k:Int}{t:ByteArray}(hi:i<s.size)(hc:chkB k t=0)(h:Has s i (YS k t).data.toList)(hn:gapK k=true->Ycr s (i+(YS k t).size)=false):
 tokN s i= .ok k t (i+(YS k t).size):=by
 have ho:=YqT hc;clear hc;by_cases k1:k=1
 ·subst k1;have e:YS 1 t=YX 39 t:=rfl;rw[e] at h⊢;obtain⟨h1,h2,h3,h4⟩:=Ygc hi h;have h1':bt s i=39:=h1;rw[h4];unfold tokN;rw[if_pos (.inl h1'),h1'];have:=Ydb (s:=s) (mark:=39) (.inl rfl) t.data.toList (i+1) (s.size - i) [] (fun e=>by cases e) h2 h3;rw[show(((39:UInt8).toNat:Nat):Int)=39 from rfl] at this;rw[this,quoR,if_pos rfl,List.nil_append,Array.toArray_toList];congr 1; omega
 by_cases k2:k=2
 ·subst k2;have hw:YY t=true:=ho;have e:YS 2 t=YX 34 t:=rfl;rw[e] at h⊢;obtain⟨h1,h2,h3,h4⟩:=Ygc hi h;have h1':bt s i=34:=h1;unfold YY at hw;simp only[Bool.and_eq_true,decide_eq_true_eq] at hw;obtain⟨⟨w0,w1⟩,w2⟩:=hw;have w3:=(Yv t JB _ 0 rfl (Nat.zero_le _)).1 w2;rw[h4];unfold tokN;rw[if_pos (.inr h1'),h1'];have:=Ydb (s:=s) (mark:=34) (.inr rfl) t.data.toList (i+1) (s.size - i) [] (fun _=>(YpS t JB).2 w3) h2 h3;rw[show(((34:UInt8).toNat:Nat):Int)=34 from rfl] at this;have hz:t.data.toList.length=t.size:=Array.length_toList;rw[this,quoR,if_neg Zd,List.nil_append,hz,if_neg Zo,Array.toArray_toList];congr 1; omega
 rw[Ybn k1 k2] at h hn⊢;have hz:t.data.toList.length=t.size:=Array.length_toList;have hle:=Yiz h Zo;rw[hz] at hle;have hex:=Yjp h Zo;have hb:=fun j hj=>Yhi h j hj;by_cases k3:k=3
 ·subst k3;have hm:YL t=true:=ho;have hnr:=hn rfl;unfold YL at hm;simp only[Bool.and_eq_true,decide_eq_true_eq,beq_iff_eq] at hm;obtain⟨⟨⟨m0,m1⟩,m2⟩,m3⟩:=hm;have m4:=(Yv t (inner Yj) _ 1 rfl Zo).1 m3;have hb0:=hb 0 Zo;rw[Nat.add_zero] at hb0;have c2:cls (bt s i).toNat=2:=by rw[hb0]; exact m2
  have hl:=JF (s:=s) (i:=i) (fun c=>!(cls c.toNat==2)||(!(c==39)&&!(c==34)&&inner Yj c&&inner Js c)) YdX;simp only[c2,beq_self_eq_true,Bool.not_true,Bool.false_or,Bool.and_eq_true,Bool.not_eq_true',beq_eq_false_iff_ne] at hl;obtain⟨⟨⟨l1,l2⟩,l3⟩,_⟩:=hl;have hrun:Yf s (inner Yj) i=i+t.size:=Yf9 (fun j hj=>by
   rcases Nat.eq_zero_or_pos j with e | e
   ·subst e; rw[Nat.add_zero]; exact l3
   ·rw[hb j hj]; exact m4 j e hj) hle (Ydc _ Yii hnr)
  have hv:¬(steB (bt s i)=true/\bt s (i+1)=46):=by
   rintro⟨_,q⟩;by_cases e:t.size=1
   ·have:i+1<s.size:=Nat.lt_of_not_le fun r=>by rw[Jp r] at q; cases q
    rw[Ya0,e,decide_eq_true this,q] at hnr;exact absurd hnr Zd
   ·have hd:=JF (s:=s) (i:=i+1) (fun c=>!inner Yj c||!(c==46)) Ynu;rw[show inner Yj (bt s (i+1))=true by rw[hb 1 Zo]; exact m4 1 (Nat.le_refl _) Zo,q] at hd;exact absurd hd Zd
  have:=Yeo (s:=s) (i:=i) rfl (by rintro(q | q); exact l1 q; exact l2 q) hv c2;rw[<-this,hrun,if_neg Zo];unfold near;rw[if_neg (by rw[hnr]; decide),hex]
 by_cases k4:k=4
 ·subst k4;have hm:Y8 t=true:=ho;have hnr:=hn rfl;obtain⟨m0,m1,m2⟩:=Yie hm;have hb0:=hb 0 Zo;rw[Nat.add_zero] at hb0;rw[<-hb0] at m2;have hd:(cls (bt s i).toNat==3||bt s i==45)=true:=by
   rcases m2 with q | q
   ·rw[q]; rfl
   ·rw[q.1]; rfl
  have hl:=JF (s:=s) (i:=i) (fun c=>!(cls c.toNat==3||c==45)||(!(c==39)&&!(c==34)&&!(cls c.toNat==4)&&!(cls c.toNat==2)&&!steB c)) YnR;simp only[hd,Bool.not_true,Bool.false_or,Bool.and_eq_true,Bool.not_eq_true',beq_eq_false_iff_ne] at hl;obtain⟨⟨⟨⟨l1,l2⟩,l3⟩,l4⟩,l5⟩:=hl;have hrun:digE s (i+1)=i+t.size:=by
   have:=Yf9 (s:=s) (p:=fun c=>cls c.toNat==3) (n:=t.size - 1) (i:=i+1) (fun j hj=>by
    rw[show i+1+j=i+(j+1) by omega,hb (j+1) Zo,m1 (j+1) Zo Zo]; rfl) Zo (by
     rw[show i+1+(t.size - 1)=i+t.size by omega]; exact Ydc (fun c=>cls c.toNat==3) YoU hnr)
   unfold digE;rw[this]; omega
  have:=YgP (s:=s) (i:=i) rfl (by rintro(q | q); exact l1 q; exact l2 q) l3 (by rw[l5]; rintro⟨q,_⟩; cases q) l4 (by
   rcases m2 with q | q
   ·exact .inl q
   ·exact .inr ⟨q.1,by rw[hb 1 Zo]; exact m1 1 (Nat.le_refl _) Zo⟩)
  rw[<-this,hrun,hex,if_pos hm];unfold near;rw[if_neg (by rw[hnr]; decide),hex]
 by_cases k5:k=5
 ·subst k5;have hm:YF t=true:=ho;have hnr:=hn rfl;unfold YF at hm;simp only[Bool.and_eq_true,decide_eq_true_eq,beq_iff_eq] at hm;obtain⟨⟨⟨⟨m0,m1⟩,m2⟩,m3⟩,m4⟩:=hm;have m5:=(Yv t (inner Js) _ 2 rfl Zo).1 m4;have hb0:=hb 0 Zo;rw[Nat.add_zero] at hb0;rw[<-hb0] at m2;have hst:=JF (s:=s) (i:=i) (fun c=>!steB c||cls c.toNat==2) Yf1;simp only[m2,Bool.not_true,Bool.false_or,beq_iff_eq] at hst;have hl:=JF (s:=s) (i:=i) (fun c=>!(cls c.toNat==2)||(!(c==39)&&!(c==34)&&inner Yj c&&inner Js c)) YdX;simp only[hst,beq_self_eq_true,Bool.not_true,Bool.false_or,Bool.and_eq_true,Bool.not_eq_true',beq_eq_false_iff_ne] at hl;obtain⟨⟨⟨l1,l2⟩,_⟩,_⟩:=hl;have hrun:Yf s (inner Js) (i+2)=i+t.size:=by
   have:=Yf9 (s:=s) (p:=inner Js) (n:=t.size - 2) (i:=i+2) (fun j hj=>by
    rw[show i+2+j=i+(j+2) by omega,hb (j+2) Zo]; exact m5 (j+2) Zo Zo) Zo (by
     rw[show i+2+(t.size - 2)=i+t.size by omega]; exact Ydc _ Ym0 hnr)
   rw[this]; omega
  have:=Yi3 (s:=s) (i:=i) rfl (by rintro(q | q); exact l1 q; exact l2 q) (by rw[hst]; decide) ⟨m2,by rw[hb 1 Zo]; exact m3⟩;rw[<-this,hrun,if_neg Zo];unfold near;rw[if_neg (by rw[hnr]; decide),hex]
 by_cases k6:k=6
 ·subst k6;have hm:(decide (t.size=1)&&(cls (bt t 0).toNat==4))=true:=ho;simp only[Bool.and_eq_true,decide_eq_true_eq,beq_iff_eq] at hm;obtain⟨m0,m1⟩:=hm;have hb0:=hb 0 Zo;rw[Nat.add_zero] at hb0;rw[<-hb0] at m1;have hl:=JF (s:=s) (i:=i) (fun c=>!(cls c.toNat==4)||(!(c==39)&&!(c==34))) Ypi;simp only[m1,beq_self_eq_true,Bool.not_true,Bool.false_or,Bool.and_eq_true,Bool.not_eq_true',beq_eq_false_iff_ne] at hl;rw[m0] at hex⊢;rw[YgO (s:=s) (i:=i) rfl (by rintro(q | q); exact hl.1 q; exact hl.2 q) m1,hex]
 by_cases k7:k=7
 ·subst k7;have hm:YaR t=true:=ho;have hnr:=hn rfl;have key:bt t 0=36/\2<=t.size/\cls (bt t 1).toNat=2/\∀j,1<=j->j<t.size->inner Yj (bt t j)=true:=by
   have hk:t=⟨#[36,69,78,84,82,89]⟩\/t=⟨#[36,69,88,84,69,82,78]⟩:=by
    unfold YaR at hm;rw[Bool.or_eq_true] at hm;rcases hm with q | q
    ·exact .inl (Yco (by rw[<-Lib.toList_data]; simpa using q))
    ·exact .inr (Yco (by rw[<-Lib.toList_data]; simpa using q))
   rcases hk with rfl | rfl
   ·refine⟨by decide,by decide,by decide,fun j h1 h2=>?_⟩;have h2':j<6:=h2;have:∀x:Fin 6,x.val=0\/inner Yj (bt ⟨#[36,69,78,84,82,89]⟩ x.val)=true:=by decide+kernel
    exact(this ⟨j,h2'⟩).resolve_left (by show ¬j=0; omega)
   ·refine⟨by decide,by decide,by decide,fun j h1 h2=>?_⟩;have h2':j<7:=h2;have:∀x:Fin 7,x.val=0\/inner Yj (bt ⟨#[36,69,88,84,69,82,78]⟩ x.val)=true:=by decide+kernel
    exact(this ⟨j,h2'⟩).resolve_left (by show ¬j=0; omega)
  obtain⟨m0,m1,m2,m3⟩:=key;have hb0:=hb 0 Zo;rw[Nat.add_zero,m0] at hb0;have hb1:=hb 1 Zo;have hrun:Yf s (inner Yj) (i+1)=i+t.size:=by
   have:=Yf9 (s:=s) (p:=inner Yj) (n:=t.size - 1) (i:=i+1) (fun j hj=>by
    rw[show i+1+j=i+(j+1) by omega,hb (j+1) Zo]; exact m3 (j+1) Zo Zo) Zo (by
     rw[show i+1+(t.size - 1)=i+t.size by omega]; exact Ydc _ Yii hnr)
   rw[this]; omega
  have:=Yen (s:=s) (i:=i) rfl hb0;rw[<-this,hb1,if_pos m2,hrun,hex,if_pos hm];unfold near;rw[if_neg (by rw[hnr]; decide),hex]
 ·unfold okB at ho;rw[if_neg k1,if_neg k2,if_neg k3,if_neg k4,if_neg k5,if_neg k6,if_neg k7] at ho;cases ho
def Sk (s:ByteArray)(i j:Nat):Prop:=∀n,j - i<n->∀sp,∃sp',YO s n i sp= .ok j sp'
def Ycz (c:Int):Bool:=!(cls c.toNat==1)&&!(c==42)&&!(c==47)
def Stop (s:ByteArray)(i:Nat):Prop:=i=s.size\/(i<s.size/\Ycz (bt s i)=true)
theorem YbZ {s:ByteArray}{i:Nat}(h:Stop s i):Sk s i i:=fun n hn sp=>by
 obtain⟨m,rfl⟩:∃m,n=m+1:=⟨n - 1,by omega⟩;unfold YO;rcases h with h | ⟨h1,h2⟩
 ·rw[if_neg Zo]; exact⟨sp,rfl⟩
 ·unfold Ycz at h2;simp only[Bool.and_eq_true,Bool.not_eq_true',beq_eq_false_iff_ne] at h2;obtain⟨⟨a,b⟩,c⟩:=h2;rw[if_pos h1,if_neg a,if_neg (by unfold Y7; rw[show(bt s i==42)=false by simpa using b]; simp),if_neg (by unfold isOpen; rw[show(bt s i==47)=false by simpa using c]; simp)];exact⟨sp,rfl⟩
theorem YaY {s:ByteArray}{i j:Nat}(h1:i<s.size)(h2:cls (bt s i).toNat=1)(hj:i+1<=j)(h:Sk s (i+1) j):Sk s i j:=fun n hn sp=>by
 obtain⟨m,rfl⟩:∃m,n=m+1:=⟨n - 1,by omega⟩;unfold YO;rw[if_pos h1,if_pos h2];exact h m Zo sp
theorem Yp3 {s:ByteArray}{i j:Nat}(h1:i<s.size)(h2:bt s i=42)(h3:bt s (i - 1)=10)(hl:i<YK s i)(hj:YK s i<=j)(h:Sk s (YK s i) j):Sk s i j:=fun n hn sp=>by
 obtain⟨m,rfl⟩:∃m,n=m+1:=⟨n - 1,by omega⟩;unfold YO;rw[if_pos h1,if_neg (by rw[h2]; decide),if_pos (by unfold Y7; rw[h2,h3]; simp)];exact h m Zo _
theorem Yms {s:ByteArray}{i j e:Nat}(h1:i<s.size)(h2:bt s i=47)(h3:bt s (i+1)=42)(he:Yce s (i+2)=some e)(hl:i<e)(hj:e<=j)(h:Sk s e j):Sk s i j:=fun n hn sp=>by
 obtain⟨m,rfl⟩:∃m,n=m+1:=⟨n - 1,by omega⟩;unfold YO;rw[if_pos h1,if_neg (by rw[h2]; decide),if_neg (by unfold Y7; rw[h2]; simp),if_pos (by unfold isOpen; rw[h2,h3]; rfl),he];exact h m Zo _
theorem YnO {s:ByteArray}{i:Nat}(h:i+1<s.size)(h1:bt s i=42)(h2:bt s (i+1)=47):Yce s i=some (i+2):=by
 unfold Yce;rw[show s.size - i=(s.size - i - 1)+1 by omega,comN,if_pos h,if_pos ⟨h1,h2⟩]
theorem Yhk {s:ByteArray}{i:Nat}(h:i+1<s.size)(h1:¬(bt s i=42/\bt s (i+1)=47)):Yce s i=Yce s (i+1):=by
 unfold Yce;rw[show s.size - i=(s.size - (i+1))+1 by omega,comN,if_pos h,if_neg h1]
def Yjq:Nat->List UInt8
 |0=>[32]
 |1=>[10]
 |2=>[9,13]
 |3=>[47,42,32,39,32,42,47]
 |4=>[10,42,32,34,32,36,10]
 |_=>[47,42,42,47,32]
def YlM (g:List UInt8):Prop:=g=[]\/∃k,g=Yjq k
theorem Ykw {s:ByteArray}{i:Nat}{g:List UInt8}(hg:YlM g)(h:Has s i g)(hi:i<=s.size)(hs:Stop s (i+g.length)):Sk s i (i+g.length):=by
 have hle:=Yiz h hi;have hb:=YcD h;rcases hg with rfl | ⟨k,rfl⟩
 ·exact YbZ hs
 ·match k with
  |
   0=>
   have b0:bt s i=32:=hb 0 Zd;simp only[Yjq,List.length_cons,List.length_nil] at hle hs⊢;exact YaY Zo (by rw[b0]; decide) Zo (YbZ hs)
  |
   1=>
   have b0:bt s i=10:=hb 0 Zd;simp only[Yjq,List.length_cons,List.length_nil] at hle hs⊢;exact YaY Zo (by rw[b0]; decide) Zo (YbZ hs)
  |
   2=>
   have b0:bt s i=9:=hb 0 Zd;have b1:bt s (i+1)=13:=hb 1 Zd;simp only[Yjq,List.length_cons,List.length_nil] at hle hs⊢;exact YaY Zo (by rw[b0]; decide) Zo (YaY Zo (by rw[b1]; decide) Zo (YbZ hs))
  |
   3=>
   have b0:bt s i=47:=hb 0 Zd;have b1:bt s (i+1)=42:=hb 1 Zd;have b2:bt s (i+2)=32:=hb 2 Zd;have b3:bt s (i+3)=39:=hb 3 Zd;have b4:bt s (i+4)=32:=hb 4 Zd;have b5:bt s (i+5)=42:=hb 5 Zd;have b6:bt s (i+6)=47:=hb 6 Zd;simp only[Yjq,List.length_cons,List.length_nil] at hle hs⊢;refine Yms (e:=i+7) Zo b0 b1 ?_ Zo Zo (YbZ hs);rw[Yhk Zo (by rw[b2]; rintro⟨q,_⟩; cases q),Yhk Zo (by rw[b3]; rintro⟨q,_⟩; cases q),Yhk Zo (by rw[b4]; rintro⟨q,_⟩; cases q),YnO Zo b5 b6]
  |
   4=>
   have b0:bt s i=10:=hb 0 Zd;have b1:bt s (i+1)=42:=hb 1 Zd;have b2:bt s (i+2)=32:=hb 2 Zd;have b3:bt s (i+3)=34:=hb 3 Zd;have b4:bt s (i+4)=32:=hb 4 Zd;have b5:bt s (i+5)=36:=hb 5 Zd;have b6:bt s (i+6)=10:=hb 6 Zd;simp only[Yjq,List.length_cons,List.length_nil] at hle hs⊢;have hl:YK s (i+1)=i+6:=by
    have:=Yf9 (s:=s) (p:=Ye2) (n:=5) (i:=i+1) (fun j hj=>by
     match j,hj with
     |0,_=>rw[Nat.add_zero,b1]; decide
     |1,_=>rw[b2]; decide
     |2,_=>rw[b3]; decide
     |3,_=>rw[b4]; decide
     |4,_=>rw[b5]; decide) Zo (by rw[b6]; rintro⟨_,q⟩; exact absurd q Zd)
    exact this
   refine YaY Zo (by rw[b0]; decide) Zo (Yp3 Zo b1 b0 (by rw[hl]; omega) (by rw[hl]; omega) ?_);rw[hl];exact YaY Zo (by rw[b6]; decide) Zo (YbZ hs)
  |
   k+5=>
   have b0:bt s i=47:=hb 0 (by decide:0<5);have b1:bt s (i+1)=42:=hb 1 (by decide:1<5);have b2:bt s (i+2)=42:=hb 2 (by decide:2<5);have b3:bt s (i+3)=47:=hb 3 (by decide:3<5);have b4:bt s (i+4)=32:=hb 4 (by decide:4<5);simp only[Yjq,List.length_cons,List.length_nil] at hle hs⊢;exact Yms (e:=i+4) Zo b0 b1 (YnO Zo b2 b3) Zo Zo (YaY Zo (by rw[b4]; decide) Zo (YbZ hs))
theorem Ykx {g:List UInt8}(hg:YlM g)(hne:g≠[]){s:ByteArray}{i:Nat}{r:List UInt8}(h:Has s i (g++r)):Ycr s i=false:=by
 have key:∃b q,g=b::q/\Ye4 b.toNat=false:=by
  rcases hg with rfl | ⟨k,rfl⟩
  ·exact absurd rfl hne
  ·match k with
   |0=>exact⟨_,_,rfl,by decide⟩
   |1=>exact⟨_,_,rfl,by decide⟩
   |2=>exact⟨_,_,rfl,by decide⟩
   |3=>exact⟨_,_,rfl,by decide⟩
   |4=>exact⟨_,_,rfl,by decide⟩
   |k+5=>exact⟨_,_,rfl,by decide⟩
 obtain⟨b,q,rfl,hb⟩:=key;have h2:=(YN.1 h).2.1;rw[Ya0,YaE,h2,hb,Bool.and_false]
theorem Yd4:∀x:Fin 256,(!(cls (x.val:Int).toNat==2)||Ycz x.val)=true:=by decide+kernel
theorem Yi8:∀x:Fin 256,(!(cls (x.val:Int).toNat==3||(x.val:Int)==45)||Ycz x.val)=true:=by decide+kernel
theorem Ylc:∀x:Fin 256,(!(cls (x.val:Int).toNat==4)||(Ycz x.val&&!Ye4 x.val))=true:=by decide+kernel
theorem YhE {k:Int}{t:ByteArray}(hc:chkB k t=0):∃b r,(YS k t).data.toList=b::r/\Ycz b.toNat=true/\(gapK k=false->Ye4 b.toNat=false):=by
 have ho:=YqT hc;clear hc;by_cases k1:k=1
 ·subst k1;exact⟨39,(t.data.toList.flatMap (escB 39)++[39]),by show(YX 39 t).data.toList=_; simp[YX,Yaa],by decide,fun _=>by decide⟩
 by_cases k2:k=2
 ·subst k2;exact⟨34,(t.data.toList.flatMap (escB 34)++[34]),by show(YX 34 t).data.toList=_; simp[YX,Yaa],by decide,fun _=>by decide⟩
 rw[Ybn k1 k2];have hz:t.data.toList.length=t.size:=Array.length_toList;have first:1<=t.size->∃b r,t.data.toList=b::r/\bt t 0=b.toNat:=fun h1=>by
  cases hl:t.data.toList with
  |nil=>rw[hl] at hz; simp at hz; omega
  |cons b r=>exact⟨b,r,rfl,YdY t hl⟩
 by_cases k3:k=3
 ·subst k3;have hm:YL t=true:=ho;unfold YL at hm;simp only[Bool.and_eq_true,decide_eq_true_eq,beq_iff_eq] at hm;obtain⟨⟨⟨m0,m1⟩,m2⟩,m3⟩:=hm;obtain⟨b,r,hl,hb⟩:=first Zo
  have:=JF (s:=t) (i:=0) (fun c=>!(cls c.toNat==2)||Ycz c) Yd4;simp only[m2,beq_self_eq_true,Bool.not_true,Bool.false_or] at this;exact⟨b,r,hl,by rw[<-hb]; exact this,fun q=>by cases q⟩
 by_cases k4:k=4
 ·subst k4;have hm:Y8 t=true:=ho;obtain⟨m0,m1,m2⟩:=Yie hm;obtain⟨b,r,hl,hb⟩:=first Zo
  have hd:(cls (bt t 0).toNat==3||bt t 0==45)=true:=by
   rcases m2 with q | q
   ·rw[q]; rfl
   ·rw[q.1]; rfl
  have:=JF (s:=t) (i:=0) (fun c=>!(cls c.toNat==3||c==45)||Ycz c) Yi8;simp only[hd,Bool.not_true,Bool.false_or] at this;exact⟨b,r,hl,by rw[<-hb]; exact this,fun q=>by cases q⟩
 by_cases k5:k=5
 ·subst k5;have hm:YF t=true:=ho;unfold YF at hm;simp only[Bool.and_eq_true,decide_eq_true_eq,beq_iff_eq] at hm;obtain⟨⟨⟨⟨m0,m1⟩,m2⟩,m3⟩,m4⟩:=hm;obtain⟨b,r,hl,hb⟩:=first Zo
  have hst:=JF (s:=t) (i:=0) (fun c=>!steB c||cls c.toNat==2) Yf1;simp only[m2,Bool.not_true,Bool.false_or,beq_iff_eq] at hst;have:=JF (s:=t) (i:=0) (fun c=>!(cls c.toNat==2)||Ycz c) Yd4;simp only[hst,beq_self_eq_true,Bool.not_true,Bool.false_or] at this;exact⟨b,r,hl,by rw[<-hb]; exact this,fun q=>by cases q⟩
 by_cases k6:k=6
 ·subst k6;have hm:(decide (t.size=1)&&(cls (bt t 0).toNat==4))=true:=ho;simp only[Bool.and_eq_true,decide_eq_true_eq,beq_iff_eq] at hm;obtain⟨m0,m1⟩:=hm;obtain⟨b,r,hl,hb⟩:=first Zo
  have:=JF (s:=t) (i:=0) (fun c=>!(cls c.toNat==4)||(Ycz c&&!Ye4 c)) Ylc;simp only[m1,beq_self_eq_true,Bool.not_true,Bool.false_or,Bool.and_eq_true,Bool.not_eq_true'] at this;exact⟨b,r,hl,by rw[<-hb]; exact this.1,fun _=>by rw[<-hb]; exact this.2⟩
 by_cases k7:k=7
 ·subst k7;have hm:YaR t=true:=ho;unfold YaR at hm;rw[Bool.or_eq_true] at hm;rcases hm with q | q
  ·exact⟨36,[69,78,84,82,89],by rw[<-Lib.toList_data]; simpa using q,by decide,fun q=>by cases q⟩
  ·exact⟨36,[69,88,84,69,82,78],by rw[<-Lib.toList_data]; simpa using q,by decide,fun q=>by cases q⟩
 ·unfold okB at ho;rw[if_neg k1,if_neg k2,if_neg k3,if_neg k4,if_neg k5,if_neg k6,if_neg k7] at ho;cases ho
def YdJ:List (List UInt8)->List Ti->List UInt8
 |g::gs,x::l=>g++((YS x.kind x.text).data.toList++YdJ gs l)
 |g::_,[]=>g
 |[],_=>[]
def YiA:Bool->List (List UInt8)->List Ti->Prop
 |prev,g::gs,x::l=>YlM g/\(g=[]->(prev&&gapK x.kind)=false)/\YiA (gapK x.kind) gs l
 |_,[g],[]=>YlM g
 |_,_,_=>False
theorem Ykn (s:ByteArray):∀(l:List Ti) (prev:Bool) (gs:List (List UInt8)) (i:Nat),YiA prev gs l->(∀x∈l,chkB x.kind x.text=0)->Has s i (YdJ gs l)->i+(YdJ gs l).length=s.size->
 (prev=true->Ycr s i=false)/\∀(n:Nat) (sp:List (Nat×Nat)) (acc:List Tk),s.size - i<n->∃m sp',Jd s n i sp acc= .ok (acc++m) sp'/\m.map (fun x=>(x.kind,x.text))=l.map (fun x=>(x.kind,x.text))
 |
  [],prev,gs,i,hg,_,h,hz=>by
  match gs,hg with
  |
   [g],hg=>
   have hg:YlM g:=hg;have h:Has s i g:=h;have hz:i+g.length=s.size:=hz;refine⟨fun _=>?_,fun n sp acc hn=>?_⟩
   ·by_cases e:g=[]
    ·subst e;rw[Ya0,decide_eq_false (by simp at hz; omega),Bool.false_and]
    ·exact Ykx hg e (r:=[]) (by rw[List.append_nil]; exact h)
   ·obtain⟨n,rfl⟩:∃m,n=m+1:=⟨n - 1,by omega⟩;have hk:=Ykw hg h Zo (.inl hz);obtain⟨sp',hsp⟩:=hk (s.size+1) Zo sp;refine⟨[],sp',?_,rfl⟩;rw[List.append_nil];exact YgN rfl hsp hz
 |
  x::l,prev,gs,i,hg,hok,h,hz=>by
  match gs,hg with
  |
   g::gs,hg=>
   obtain⟨hg1,hg2,hg3⟩:YlM g/\(g=[]->(prev&&gapK x.kind)=false)/\YiA (gapK x.kind) gs l:=hg;have h:Has s i (g++((YS x.kind x.text).data.toList++YdJ gs l)):=h;have hz:i+(g++((YS x.kind x.text).data.toList++YdJ gs l)).length=s.size:=hz;rw[List.length_append,List.length_append] at hz;have hx:=hok x Zs;obtain⟨b,r,hbr,hs1,hs2⟩:=YhE hx;obtain⟨h1,h2⟩:=YdT.1 h;obtain⟨h3,h4⟩:=YdT.1 h2;have htz:(YS x.kind x.text).data.toList.length=(YS x.kind x.text).size:=Array.length_toList;have htp:1<=(YS x.kind x.text).size:=by rw[<-htz,hbr]; simp
   have hbj:bu s (i+g.length)=b:=by rw[hbr] at h3; exact(YN.1 h3).2.1
   rw[htz] at h4 hz;have ih:=Ykn s l (gapK x.kind) gs _ hg3 (fun y hy=>hok y (List.mem_cons_of_mem _ hy)) h4 Zo;refine⟨fun hp=>?_,fun n sp acc hn=>?_⟩
   ·by_cases e:g=[]
    ·subst e;have hgk:=hg2 rfl;rw[hp,Bool.true_and] at hgk;rw[List.length_nil,Nat.add_zero] at hbj;rw[Ya0,YaE,hbj,hs2 hgk,Bool.and_false]
    ·exact Ykx hg1 e h
   ·obtain⟨n,rfl⟩:∃m,n=m+1:=⟨n - 1,by omega⟩;have hj:i+g.length<s.size:=Zo;have hk:=Ykw hg1 h1 Zo (.inr ⟨hj,by rw[YaE,hbj]; exact hs1⟩);obtain⟨sp',hsp⟩:=hk (s.size+1) Zo sp;have ht:=YjQ hj hx h3 ih.1;obtain⟨m,sp2,hm,he⟩:=ih.2 n sp' (acc++[⟨x.kind,x.text,i+g.length⟩]) Zo;refine⟨⟨x.kind,x.text,i+g.length⟩::m,sp2,?_,?_⟩
    ·rw[<-YeE rfl hsp Zo ht,hm];simp
    ·simp[he]
theorem YoG {s:ByteArray}{l:List Ti}{gs:List (List UInt8)}(hz:s.size<=40000)(hg:YiA false gs l)(hok:∀x∈l,chkB x.kind x.text=0)(h:s.data.toList=YdJ gs l):
 ∃m sp,Jr s= .ok m sp/\m.map (fun x=>(x.kind,x.text))=l.map (fun x=>(x.kind,x.text)):=by
 have hl:s.data.toList.length=s.size:=Array.length_toList;have hh:Has s 0 (YdJ gs l):=by unfold Has; rw[List.drop_zero,h]; exact List.prefix_refl _
 obtain⟨m,sp,h1,h2⟩:=(Ykn s l false gs 0 hg hok hh (by rw[<-h]; omega)).2 (s.size+1) [] [] Zo;refine⟨m,sp,?_,h2⟩;unfold Jr;rw[if_neg Zo,h1,List.nil_append]
def YiB:Bool->List Ti->List (List UInt8)
 |_,[]=>[[]]
 |prev,x::l=>(if prev&&gapK x.kind then [32] else [])::YiB (gapK x.kind) l
theorem Ykv:∀(l:List Ti) (prev:Bool),YiA prev (YiB prev l) l
 |[],_=>.inl rfl
 |
  x::l,prev=>by
  refine⟨?_,?_,Ykv l _⟩
  ·split
   ·exact .inr ⟨0,rfl⟩
   ·exact .inl rfl
  ·cases e:(prev&&gapK x.kind) with
   |false=>intro _; rfl
   |true=>rw[if_pos rfl]; intro q; cases q
def Yib (p:List Ti):Bool:=match p.getLast? with
 |none=>false
 |some y=>gapK y.kind
theorem Yko:∀(l p:List Ti),(List.range l.length).flatMap (fun i=>segB (p++l) (p.length+i))=YdJ (YiB (Yib p) l) l
 |[],p=>rfl
 |
  x::l,p=>by
  have ih:=Yko l (p++[x]);rw[List.append_assoc,List.singleton_append,List.length_append,List.length_singleton] at ih;rw[List.length_cons,List.range_succ_eq_map,List.flatMap_cons,List.flatMap_map];have e1:(fun a=>segB (p++x::l) (p.length+a.succ))=fun i=>segB (p++x::l) (p.length+1+i):=by
   funext i; congr 1; omega
  rw[e1,ih];have e2:Yib (p++[x])=gapK x.kind:=by unfold Yib; simp
  rw[e2];have hlt:p.length<(p++x::l).length:=Zs;have hg:Yeg (p++x::l) p.length=(Yib p&&gapK x.kind):=by
   unfold Yib;cases hp:p.getLast? with
   |
    none=>
    have:p=[]:=List.getLast?_eq_none_iff.1 hp;subst this; rfl
   |
    some y=>
    obtain⟨q,rfl⟩:=List.getLast?_eq_some_iff.1 hp;have:(q++[y]).length=q.length+1:=Zs;rw[this];show YnB _ _=_;rw[show((q++[y])++x::l)[q.length+1]? =some x by simp,show((q++[y])++x::l)[q.length]? =some y by simp];show(gapK x.kind&&gapK y.kind)=_;rw[Bool.and_comm]
  rw[Nat.add_zero,Yjc hlt,hg];have hx:(p++x::l)[p.length]=x:=Zs;rw[hx,List.append_assoc];rfl
theorem Ygi (l:List Ti):Y6 l l.length=YdJ (YiB false l) l:=by
 have:=Yko l [];simp only[List.nil_append,List.length_nil,Nat.zero_add] at this;exact this
theorem YmA {l:List Ti}{s:ByteArray}(h:YcO l=(s,0)):s.size<=40000/\(∀x∈l,chkB x.kind x.text=0)/\∃m sp,Jr s= .ok m sp/\m.map (fun x=>(x.kind,x.text))=l.map (fun x=>(x.kind,x.text)):=by
 unfold YcO at h;cases hb:YfL l with
 |some i=>rw[hb] at h; cases h
 |
  none=>
  rw[hb] at h;dsimp only at h;have hall:=YnX hb;have hok:∀x∈l,chkB x.kind x.text=0:=fun x hx=>by
   obtain⟨k,hk,rfl⟩:=List.getElem_of_mem hx;exact hall k hk
  by_cases h4:40000<(Y6 l l.length).length
  ·rw[if_pos h4] at h; cases h
  ·rw[if_neg h4] at h;cases h;have hz:(⟨(Y6 l l.length).toArray⟩:ByteArray).size=(Y6 l l.length).length:=List.size_toArray ..;exact⟨by omega,hok,YoG Zo (Ykv l false) hok (Ygi l)⟩
section
variable {s:ByteArray}{T:Int×Int×Int}{k:Nat}
end
section
variable {s:ByteArray}{i e:Nat}{q:List (Nat×Nat)}
end
theorem YcW {s:ByteArray}{i e j:Nat}(he:e<=s.size)(hj:i+j<e):bt (s.extract i e) j=bt s (i+j):=by
 have hz:j<(s.extract i e).size:=by rw[ByteArray.size_extract]; omega
 rw[<-Je hz,<-Je (show i+j<s.size by omega),ByteArray.getElem_extract]
theorem Ycc {s:ByteArray}{i e:Nat}(he:e<=s.size):(s.extract i e).size=e - i:=by rw[ByteArray.size_extract]; omega
theorem Yg1 (s:ByteArray)(p:Int->Bool):∀(n i:Nat),s.size - i=n->∀j,i<=j->j<Yf s p i->p (bt s j)=true
 |0,i,hn,j,h1,h2=>by rw[YD Zo] at h2; omega
 |
  n+1,i,hn,j,h1,h2=>by
  by_cases hp:p (bt s i)=true
  ·rw[YE Zo hp] at h2;by_cases e:j=i
   ·rw[e]; exact hp
   ·exact Yg1 s p n (i+1) Zo j Zo h2
  ·rw[YD (by rintro⟨_,q⟩; exact hp q)] at h2; omega
def YcG (s:ByteArray)(kind:Int)(i fin:Nat)(wrong:Int):TokR:=if chkB kind (s.extract i fin)=0 then near s kind i fin else .bad wrong i
theorem YkI {kind:Int}{t:ByteArray}(h:okB kind t=true):chkB kind t=0:=by unfold chkB; rw[if_pos h]
theorem YkJ {kind:Int}{t:ByteArray}(h:okB kind t=false):¬chkB kind t=0:=by unfold chkB; rw[h]; decide
section
variable {s:ByteArray}{i:Nat}{R:TokR}
theorem Yk3 (h:tokN s i=R)(h36:bt s i=36):YcG s 7 i (if cls (bt s (i+1)).toNat=2 then Yf s (inner Yj) (i+1) else i+1) 45=R:=by
 have:=Yen h h36;generalize(if cls (bt s (i+1)).toNat=2 then Yf s (inner Yj) (i+1) else i+1)=E at this⊢;rw[<-this];unfold YcG;cases hk:YaR (s.extract i E) with
 |true=>rw[if_pos (YkI (show okB 7 _=true from hk)),if_pos rfl]
 |false=>rw[if_neg (YkJ (show okB 7 _=false from hk)),if_neg Zd]
theorem Yk5 (h:tokN s i=R)(hq:¬(bt s i=39\/bt s i=34))(h4:¬cls (bt s i).toNat=4)(hv:¬(steB (bt s i)=true/\bt s (i+1)=46))(h2:¬cls (bt s i).toNat=2)
 (h3:cls (bt s i).toNat=3\/(bt s i=45/\cls (bt s (i+1)).toNat=3)):YcG s 4 i (digE s (i+1)) 43=R:=by
 have:=YgP h hq h4 hv h2 h3;rw[<-this];unfold YcG;cases hk:Y8 (s.extract i (digE s (i+1))) with
 |true=>rw[if_pos (YkI (show okB 4 _=true from hk)),if_pos rfl]
 |false=>rw[if_neg (YkJ (show okB 4 _=false from hk)),if_neg Zd]
theorem Yk6 (hi:i<s.size)(h:tokN s i=R)(hq:¬(bt s i=39\/bt s i=34))(hv:¬(steB (bt s i)=true/\bt s (i+1)=46))(h2:cls (bt s i).toNat=2):YcG s 3 i (Yf s (inner Yj) i) 43=R:=by
 have:=Yeo h hq hv h2;rw[<-this];have hin:=Yg1 s (inner Yj) _ i rfl;have hle:=YW s (inner Yj) i Zo;have hstep:Yf s (inner Yj) i=Yf s (inner Yj) (i+1):=by
  have hl:=JF (s:=s) (i:=i) (fun c=>!(cls c.toNat==2)||(!(c==39)&&!(c==34)&&inner Yj c&&inner Js c)) YdX;simp only[h2,beq_self_eq_true,Bool.not_true,Bool.false_or,Bool.and_eq_true,Bool.not_eq_true',beq_eq_false_iff_ne] at hl;exact YE hi hl.1.2
 have hle2:=YW s (inner Yj) (i+1) hi;generalize Yf s (inner Yj) i=E at*;have hz:=Ycc (i:=i) hle.2;have hb0:bt (s.extract i E) 0=bt s i:=by have:=YcW (i:=i) (j:=0) hle.2 Zo; rwa [Nat.add_zero] at this
 have hrun:Yf (s.extract i E) (inner Yj) 1=(s.extract i E).size:=(Yv _ _ _ 1 rfl Zo).2 fun j h1 h2=>by
  rw[YcW hle.2 Zo]; exact hin (i+j) Zo Zo
 have hn:YL (s.extract i E)=decide (E<=i+60):=by
  unfold YL;rw[hb0,h2,hrun,hz,decide_eq_true (show E - i≠0 by omega),Bool.eq_iff_iff];simp; omega
 unfold YcG;by_cases hc:i+60<E
 ·rw[if_pos hc,if_neg (YkJ (show okB 3 _=false from hn.trans (Zf)))]
 ·rw[if_neg hc,if_pos (YkI (show okB 3 _=true from hn.trans (Zt)))]
theorem Yk4 (hi:i+1<s.size)(h:tokN s i=R)(hq:¬(bt s i=39\/bt s i=34))(h4:¬cls (bt s i).toNat=4)(hv:steB (bt s i)=true/\bt s (i+1)=46):YcG s 5 i (Yf s (inner Js) (i+2)) 43=R:=by
 have:=Yi3 h hq h4 hv;rw[<-this];have hin:=Yg1 s (inner Js) _ (i+2) rfl;have hle:=YW s (inner Js) (i+2) Zo;generalize Yf s (inner Js) (i+2)=E at*;have hz:=Ycc (i:=i) hle.2;have hb0:bt (s.extract i E) 0=bt s i:=by have:=YcW (i:=i) (j:=0) hle.2 Zo; rwa [Nat.add_zero] at this
 have hb1:bt (s.extract i E) 1=bt s (i+1):=YcW (i:=i) (j:=1) hle.2 Zo;have hrun:Yf (s.extract i E) (inner Js) 2=(s.extract i E).size:=(Yv _ _ _ 2 rfl Zo).2 fun j h1 h2=>by
  rw[YcW hle.2 Zo]; exact hin (i+j) Zo Zo
 have hn:YF (s.extract i E)=decide (i+3<=E/\E<=i+42):=by
  unfold YF;rw[hb0,hb1,hv.1,hv.2,hrun,hz,Bool.eq_iff_iff];simp; omega
 unfold YcG;by_cases hc:E<i+3\/i+42<E
 ·rw[if_pos hc,if_neg (YkJ (show okB 5 _=false from hn.trans (Zf)))]
 ·rw[if_neg hc,if_pos (YkI (show okB 5 _=true from hn.trans (Zt)))]
end
theorem YeX (s:ByteArray):∀(n i:Nat) (out out':List UInt8) (fin:Nat),(∀x∈out,32<=x.toNat/\x.toNat<=126)->quoN s 34 n i out= .ok out' fin->∀x∈out',32<=x.toNat/\x.toNat<=126
 |0,i,out,out',fin,ho,h=>by cases h
 |
  n+1,i,out,out',fin,ho,h=>by
  by_cases hm:bt s i=34
  ·have:=YmL h hm;cases this;exact ho
  ·by_cases hb:s.size<=i\/bt s i<32\/126<bt s i
   ·have:=Yg5 h hm hb;cases this
   ·by_cases h92:bt s i=92
    ·cases he:escF 34 (bt s (i+1)) with
     |
      some m=>
      have h':=Yjf h hm hb h92 he;refine YeX s n _ _ _ _ (fun x hx=>?_) h';rcases List.mem_append.1 hx with q | q
      ·exact ho x q
      ·rw[List.mem_singleton] at q;subst q;unfold escF at he;rw[if_pos rfl] at he;split at he
       ·cases he; decide
       ·split at he
        ·cases he; decide
        ·cases he
     |
      none=>
      have:=Yb3 h hm hb h92 he (.inl rfl);cases this
    ·have h':=YeY h hm hb h92;refine YeX s n _ _ _ _ (fun x hx=>?_) h';rcases List.mem_append.1 hx with q | q
     ·exact ho x q
     ·rw[List.mem_singleton] at q;subst q;have:=YaE s i;omega
theorem Yev {s:ByteArray}{kind wrong:Int}{i fin:Nat}{k:Int}{t:ByteArray}{f:Nat}(h:YcG s kind i fin wrong= .ok k t f):okB k t=true:=by
 unfold YcG at h;split at h
 ·rename_i hc
  unfold near at h;split at h
  ·cases h
  ·cases h;unfold chkB at hc;by_cases hk:okB kind (s.extract i fin)=true
   ·exact hk
   ·rw[if_neg hk] at hc; cases hc
 ·cases h
theorem YpX {out:List UInt8}(h1:¬(out.length<1\/60<out.length))(h2:∀x∈out,32<=x.toNat/\x.toNat<=126):YY ⟨out.toArray⟩=true:=by
 have hz:(⟨out.toArray⟩:ByteArray).size=out.length:=List.size_toArray ..;have hr:Yf (⟨out.toArray⟩:ByteArray) JB 0=(⟨out.toArray⟩:ByteArray).size:=(Yv _ _ _ 0 rfl (Nat.zero_le _)).2 fun j _ hj=>by
  have h3:=h2 ((⟨out.toArray⟩:ByteArray)[j]) (by
   have:(⟨out.toArray⟩:ByteArray)[j]∈(⟨out.toArray⟩:ByteArray).data:=Array.getElem_mem (xs:=(⟨out.toArray⟩:ByteArray).data) hj;simpa using this)
  rw[<-Je hj];unfold JB;simp only[Bool.and_eq_true,decide_eq_true_eq];omega
 unfold YY;simp only[Bool.and_eq_true,decide_eq_true_eq];exact⟨⟨by omega,by omega⟩,hr⟩
theorem Yl9 {s:ByteArray}{i:Nat}{kind:Int}{text:ByteArray}{fin:Nat}(hi:i<s.size)(h:tokN s i= .ok kind text fin):okB kind text=true:=by
 by_cases hq:bt s i=39\/bt s i=34
 ·have h':=Yi4 h hq;rcases hq with hq | hq
  ·rw[hq] at h';unfold quoR at h';split at h'
   ·cases h'
   ·rw[if_pos rfl] at h';cases h';rfl
  ·rw[hq] at h';cases hQ:quoN s 34 (s.size - i) (i+1) [] with
   |bad=>rw[hQ] at h'; cases h'
   |
    ok out f=>
    rw[hQ] at h';unfold quoR at h';dsimp only at h';rw[if_neg Zd] at h';split at h'
    ·cases h'
    ·rename_i hl
     cases h';exact YpX hl (YeX s _ _ _ _ _ Zs hQ)
 ·by_cases h4:cls (bt s i).toNat=4
  ·have:=YgO h hq h4;cases this;have hb:bt (s.extract i (i+1)) 0=bt s i:=by have:=YcW (s:=s) (i:=i) (e:=i+1) (j:=0) Zo Zo; rwa [Nat.add_zero] at this
   show(decide ((s.extract i (i+1)).size=1)&&(cls (bt (s.extract i (i+1)) 0).toNat==4))=true;rw[hb,h4,Ycc Zo];simp
  ·by_cases hv:steB (bt s i)=true/\bt s (i+1)=46
   ·have hi1:i+1<s.size:=Nat.lt_of_not_le fun q=>by have:=hv.2; rw[Jp q] at this; cases this
    exact Yev (Yk4 hi1 h hq h4 hv)
   ·by_cases h2:cls (bt s i).toNat=2
    ·exact Yev (Yk6 hi h hq hv h2)
    ·by_cases h3:cls (bt s i).toNat=3\/(bt s i=45/\cls (bt s (i+1)).toNat=3)
     ·exact Yev (Yk5 h hq h4 hv h2 h3)
     ·by_cases h36:bt s i=36
      ·exact Yev (Yk3 h h36)
      ·have:=YgQ h hq h4 hv h2 h3 h36;cases this
theorem YfT (s:ByteArray):∀(n i:Nat) (sp:List (Nat×Nat)) (acc l:List Tk) (sp':List (Nat×Nat)),i<=s.size->(∀x∈acc,okB x.kind x.text=true)->Jd s n i sp acc= .ok l sp'->∀x∈l,okB x.kind x.text=true
 |0,i,sp,acc,l,sp',hi,ha,h=>by simp only[Jd,Ydr.ok.injEq] at h; rw[<-h.1]; exact ha
 |
  n+1,i,sp,acc,l,sp',hi,ha,h=>by
  unfold Jd at h;split at h
  ·cases h
  ·rename_i j sp1 hs
   have hj:=JK s _ _ _ _ _ hi hs;split at h
   ·cases h; exact ha
   ·split at h
    ·cases h
    ·rename_i kind text fin ht
     have hf:=Ycx Zo ht;refine YfT s n _ _ _ _ _ hf.2 (fun x hx=>?_) h;rcases List.mem_append.1 hx with q | q
     ·exact ha x q
     ·rw[List.mem_singleton] at q;subst q;exact Yl9 Zo ht
theorem Yf6 {s:ByteArray}{l:List Tk}{sp:List (Nat×Nat)}(h:Jr s= .ok l sp):∀x∈l,okB x.kind x.text=true:=by
 unfold Jr at h;split at h
 ·cases h
 ·exact YfT s _ _ _ _ _ _ (Nat.zero_le _) Zs h
def Yq (k:Int)(t:ByteArray)(n:Nat):Bool:=
 if k=4 then decide (t.size=0)
 else if k=8 then Yh 40 t
 else if n≠0 then false
 else if k=1 then decide (t.size=1)
 else if k=2 then YY t
 else if k=3 then Y8 t
 else if k=5\/k=6\/k=7 then YbI t
 else false
def Ts.right (most:Int):Ts->Bool
 |.nil=>true
 |.cons k t kids rest=>decide (k<=most)&&Yq k t kids.len&&kids.right most&&rest.right most
def Yy (most:Int)(l:Ts):Int:=if 4000<l.nodes then 5 else if 100<l.deep then 6 else if l.right most=true then 0 else 2
def orC (a b:Int):Int:=if a=0 then b else a
def J5:List (Ts×Ts)->Int
 |[]=>0
 |x::l=>orC (orC (Yy 8 x.1) (Yy 7 x.2)) (J5 l)
def Ss.form:Nat->Ss->Int
 |_,.nil=>0
 |
  blocks,.cons left tests right subject block rest=>
  orC (orC (Yy 7 left) (orC (J5 tests) (if block.len=0 then orC (if subject.len=0 then 0 else 2) (Yy 8 right)
   else orC (if right.len=0 then 0 else 2) (orC (if blocks<6 then 0 else 6) (orC (Yy 8 subject) (Ss.form (blocks+1) block)))))) (Ss.form blocks rest)
def J6 (s:ByteArray):Int:=if Yh 40 s=true then 0 else 2
def JE:List ByteArray->Int
 |[]=>0
 |s::l=>orC (J6 s) (JE l)
def Jw:List Fn->Int
 |[]=>0
 |f::l=>orC (orC (J6 f.name) (if f.sents.len=0 then 2 else 0)) (orC (f.sents.form 0) (Jw l))
def Yat (m:Md):Int:=orC (JE m.externs) (Jw m.funcs)
theorem Ye {a b:Int}:orC a b=0↔a=0/\b=0:=by
 unfold orC; split
 ·rename_i h; simp[h]
 ·rename_i h; simp[h]
theorem Yab {most:Int}{l:Ts}:Yy most l=0↔l.nodes<=4000/\l.deep<=100/\l.right most=true:=by
 unfold Yy;split
 ·simp; omega
 ·split
  ·simp; omega
  ·split
   ·rename_i h; simp[h]; omega
   ·rename_i h; simp[h]
theorem Ts.right_app (most:Int):∀a b:Ts,(a.app b).right most=(a.right most&&b.right most)
 |.nil,b=>rfl
 |.cons k t kids rest,b=>by simp only[Ts.app,Ts.right,Ts.right_app most rest b,Bool.and_assoc]
theorem Yfs (s:ByteArray)(most:Int)(h:1<=most):∀(n i:Nat),i+n<=s.size->(Yt s n i).right most=true
 |0,i,hi=>rfl
 |
  n+1,i,hi=>by
  have h1:(s.extract i (i+1)).size=1:=by rw[Ycc Zo]; omega
  show(decide ((1:Int)<=most)&&Yq 1 (s.extract i (i+1)) 0&&true&&(Yt s n (i+1)).right most)=true;rw[Yfs s most h n (i+1) Zo];simp[Yq,h1,h]
theorem Ygu (s:ByteArray):∀(n i:Nat),(Yt s n i).deep=0
 |0,i=>rfl
 |
  n+1,i=>by
  show max (if (1:Int)=4\/(1:Int)=8\/(Ts.nil.len≠0) then _ else 0) (Yt s n (i+1)).deep=0;rw[Ygu s n (i+1)];simp[Ts.len]
theorem Ym1 {s:ByteArray}(h:YL s=true):YY s=true:=by
 unfold YL at h;simp only[Bool.and_eq_true,decide_eq_true_eq,beq_iff_eq] at h;obtain⟨⟨⟨h0,h1⟩,h2⟩,h3⟩:=h;have hall:=(Yv s (inner Yj) _ 1 rfl Zo).1 h3;unfold YY;simp only[Bool.and_eq_true,decide_eq_true_eq];refine⟨⟨h0,h1⟩,(Yv s JB _ 0 rfl (Nat.zero_le _)).2 fun j _ hj=>?_⟩;have hb:bt s j=(bu s j).toNat:=YaE s j;have hlt:=(bu s j).toNat_lt;have hfin:∀c:Fin 256,(cls (c.val:Int).toNat==2)=true\/inner Yj (c.val:Int)=true->JB (c.val:Int)=true:=by decide+kernel
 have:=hfin ⟨(bu s j).toNat,hlt⟩;dsimp only at this;rw[<-hb] at this;by_cases h00:j=0
 ·subst h00; exact this (.inl (by simpa using h2))
 ·exact this (.inr (hall j Zo hj))
theorem Yqe {s:ByteArray}(h:YL s=true)(h40:s.size<=40):Yh 40 s=true:=by
 unfold YL at h;unfold Yh;simp only[Bool.and_eq_true,decide_eq_true_eq,beq_iff_eq] at h⊢;exact⟨⟨⟨h.1.1.1,by omega⟩,h.1.2⟩,h.2⟩
theorem Yl2 {s:ByteArray}(h:YF s=true):YbI (s.extract 2 s.size)=true:=by
 unfold YF at h;simp only[Bool.and_eq_true,decide_eq_true_eq,beq_iff_eq] at h;obtain⟨⟨⟨⟨h0,h1⟩,_⟩,_⟩,h3⟩:=h;have hall:=(Yv s (inner Js) _ 2 rfl Zo).1 h3;have hz:(s.extract 2 s.size).size=s.size - 2:=Ycc (Nat.le_refl _);unfold YbI;simp only[Bool.and_eq_true,decide_eq_true_eq];refine⟨⟨by omega,by omega⟩,(Yv _ (inner Js) _ 0 rfl (Nat.zero_le _)).2 fun j _ hj=>?_⟩;rw[YcW (Nat.le_refl _) Zo];exact hall _ Zo Zo
theorem YfO (c:Int):JS c=5\/JS c=6\/JS c=7:=by
 unfold JS; split
 ·simp
 ·split<;>simp
theorem YkY {s:ByteArray}(h:YF s=true)(most:Int)(hm:7<=most):(varT s .nil).right most=true/\(varT s .nil).deep=0:=by
 unfold varT;rw[if_pos h];have h1:=Yl2 h;have h2:=YfO (bt s 0);generalize JS (bt s 0)=k at h2;have h4:¬k=4:=Zo;have h8:¬k=8:=Zo;constructor
 ·have:Yq k (s.extract 2 s.size) 0=true:=by
   unfold Yq;rw[if_neg h4,if_neg h8,if_neg Zd,if_neg Zo,if_neg Zo,if_neg Zo,if_pos h2,h1]
  show(decide (k<=most)&&Yq k (s.extract 2 s.size) 0&&true&&true)=true;rw[this,Zt]; rfl
 ·show max (if k=4\/k=8\/(Ts.nil.len≠0) then _ else 0) 0=0;rw[if_neg (by simp[h4,h8,Ts.len])]; rfl
section
open Go.RowKit Go.Lib
def Yid (x:Nat):Bool:=decide (x<32)||decide (126<x)
theorem get_bt (s:ByteArray){i:Nat}(h:i<s.size):((s.get! i).toNat:Int)=bt s i:=by
 rw[<-Je h];have e:s.get! i=s[i]:=getElem!_pos s.data i h;rw[e]
theorem Yjx (s:ByteArray){i:Nat}(h:i<s.size)(hw:JB (bt s i)=true):Yid (Utf8.decode s i).1=false/\(Utf8.decode s i).2=1:=by
 have hb:=get_bt s h;unfold JB at hw;simp only[Bool.and_eq_true,decide_eq_true_eq] at hw;rw[decode_at];unfold decodeN;rw[if_pos Zo];refine⟨?_,rfl⟩;unfold Yid;simp only[Bool.or_eq_false_iff,decide_eq_false_iff_not];omega
theorem YlB (s:ByteArray){i:Nat}(h:i<s.size)(hw:JB (bt s i)=false):Yid (Utf8.decode s i).1=true:=by
 have hb:=get_bt s h;have hbl:=Yan s i;unfold JB at hw;simp only[Bool.and_eq_false_iff,decide_eq_false_iff_not] at hw;rw[decode_at];generalize(s.get! (i+1)).toNat=b1;generalize(s.get! (i+2)).toNat=b2;generalize(s.get! (i+3)).toNat=b3;unfold Yid;simp only[Bool.or_eq_true,decide_eq_true_eq];by_cases h8:(s.get! i).toNat<128
 ·unfold decodeN;rw[if_pos h8];dsimp only;omega
 ·right;unfold decodeN;rw[if_neg h8];repeat' split
  all_goals (dsimp only; omega)
theorem Yks (s:ByteArray):∀(n i:Nat),s.size - i<=n->i<=s.size->decide (0<=idxFuncFrom Yid true s n i)=!decide (Yf s JB i=s.size)
 |
  0,i,hn,hi=>by
  rw[YD Zo,decide_eq_true (show i=s.size by omega)];rfl
 |
  n+1,i,hn,hi=>by
  unfold idxFuncFrom;by_cases h:i<s.size
  ·rw[if_pos h];cases hw:JB (bt s i) with
   |
    true=>
    obtain⟨e1,e2⟩:=Yjx s h hw;rw[e1,e2,if_neg Zd,YE h hw];exact Yks s n (i+1) Zo Zo
   |
    false=>
    rw[YlB s h hw,if_pos rfl,YmD (Nat.le_refl _) h hw,Zt];rfl
  ·rw[if_neg h,YD (by intro q; exact h q.1),decide_eq_true (show i=s.size by omega)];rfl
theorem Yqb (x:Nat)(hx:x<=1114111)(w:World):
 Calls Tryz.prog 225 #[.int .i32 (x:Int)] w fun e w'=>e= .returned (.bool (Yid x))/\w'=w:=by
 have h1:decide (((x:Nat):Int)<32)=decide (x<32):=by rw[decide_eq_decide]; omega
 have h2:decide ((126:Int)<((x:Nat):Int))=decide (126<x):=by rw[decide_eq_decide]; omega
 unfold Yid;go_enter Tryz.func225,Tryz.ntmps225;go_wp2;all_goals go_ret
 all_goals
  refine⟨?_,rfl⟩;first
   |(rw[h1,h2]; done)
   |(simp_all<;>omega)
theorem Yoi (s:ByteArray)(w:World):
 Calls Tryz.prog 224 #[.string s,.func (.func 225) #[] #[]] w fun e w'=>e= .returned (.bool (!decide (Yf s JB 0=s.size)))/\Below w.heap.size w w':=by
 have h:=Tryz.strings_ContainsFunc_grows 225 #[] (by intro args w; simp[go_sem]) Yid s w (fun W x hx hb=>(Yqb x hx W).mono fun e w' ⟨h1,h2⟩=>⟨h1,by rw[h2]; exact Below.refl _ _⟩);unfold Lib.idxFunc at h;rw[Yks s s.size 0 Zo (Nat.zero_le _)] at h;exact h
end
def escs (mark:Int):List (Int×Int):=if mark=34 then [(92,92),(34,34)] else [(92,92),(39,39),(110,10),(116,9)]
theorem Yfo (mark:Int)(w:World):
 Calls Tryz.prog 175 #[.int .u8 mark] w fun e w'=>e= .returned (.map (some w.heap.size))/\w'=w.alloc (Yx (escs mark)):=by
 have hmm:=@run_makeMap Tryz.prog;by_cases h:mark=34
 ·subst h;have he:escs 34=[(92,92),(34,34)]:=rfl;have HE:=Zh he;clear he;go_enter Tryz.func175,Tryz.ntmps175;go_wp2_with (first
   |(refine YI Zr _ _ _ 259 Zr 5 5 Tryz.underlying259 Tryz.underlying5 [] 92 92 Zr Zr Zr Zr ?_)
   |(refine YI Zr _ _ _ 259 Zr 5 5 Tryz.underlying259 Tryz.underlying5 [(92,92)] 34 34 Zr Zr Zr Zd ?_))
  go_ret;exact⟨rfl,by rw[HE.out]⟩
 ·have he:escs mark=[(92,92),(39,39),(110,10),(116,9)]:=by simp[escs,h]
  have HE:=Zh he;have hb:(mark==34)=false:=beq_eq_false_iff_ne.2 h;clear he h;go_enter Tryz.func175,Tryz.ntmps175;go_wp2_with (first
   |(refine YI Zr _ _ _ 259 Zr 5 5 Tryz.underlying259 Tryz.underlying5 [] 92 92 Zr Zr Zr Zd ?_)
   |(refine YI Zr _ _ _ 259 Zr 5 5 Tryz.underlying259 Tryz.underlying5 [(92,92)] 39 39 Zr Zr Zr Zd ?_)
   |(refine YI Zr _ _ _ 259 Zr 5 5 Tryz.underlying259 Tryz.underlying5 [(92,92),(39,39)] 110 10 Zr Zr Zr Zd ?_)
   |(refine YI Zr _ _ _ 259 Zr 5 5 Tryz.underlying259 Tryz.underlying5 [(92,92),(39,39),(110,10)] 116 9 Zr Zr Zr Zd ?_))
  go_ret;exact⟨rfl,by rw[HE.out]⟩
theorem Rd.bind_ok {α β:Type}{r:Rd α}{f:α->Nat->Rd β}{y:β}{k:Nat}(h:r.bind f= .ok y k):∃x i,r= .ok x i/\f x i= .ok y k:=by
 cases r with
 |ok x i=>exact⟨x,i,rfl,h⟩
 |bad a c=>cases h
theorem YoW {L:List Tk}{en i:Nat}{s:ByteArray}{k:Nat}(h:YG L en i s= .ok () k):isN L i 6 s=true/\k=i+1:=by
 unfold YG JA at h;split at h
 ·rename_i hq; cases h; exact⟨hq,rfl⟩
 ·cases h
theorem Yg8 {L:List Tk}{en i:Nat}{s:ByteArray}{k:Nat}(h:Jn L en i= .ok s k):∃t,L[i]? =some t/\t.kind=3/\t.text.size<=40/\s=t.text/\k=i+1:=by
 unfold Jn JA at h;split at h
 ·cases h
 ·rename_i t ht
  split at h
  ·rename_i hk; cases h; exact⟨t,ht,hk.1,hk.2,rfl,rfl⟩
  ·cases h
def Ydf (pat:Bool):Int:=if pat=true then 7 else 8
theorem Ym4 (pat:Bool):7<=Ydf pat:=by cases pat<;>decide
theorem YaZ {most k:Int}{t:ByteArray}{kids:Ts}(hk:k<=most)(hr:Yq k t kids.len=true)(hkids:kids.right most=true):(Ts.cons k t kids .nil).right most=true:=by
 show(decide (k<=most)&&Yq k t kids.len&&kids.right most&&true)=true;rw[decide_eq_true hk,hr,hkids]; rfl
theorem Ybi {most:Int}{a b:Ts}(ha:a.right most=true)(hb:b.right most=true):(a.app b).right most=true:=by rw[Ts.right_app,ha,hb]; rfl
theorem YdL {L:List Tk}(hL:∀x∈L,okB x.kind x.text=true){en i:Nat}{s:ByteArray}{k:Nat}(h:Jn L en i= .ok s k):Yh 40 s=true:=by
 obtain⟨t,ht,hk,hz,rfl,_⟩:=Yg8 h;have h1:=hL t (List.mem_of_getElem? ht);rw[hk] at h1;exact Yqe h1 hz
theorem Jh {L:List Tk}(hL:∀x∈L,okB x.kind x.text=true)(en:Nat)(pat:Bool):∀(n deep i:Nat) (acc ts:Ts) (j:Nat),deep<=100->acc.right (Ydf pat)=true->acc.deep<=100 - deep->
 Yc L en pat n deep i acc= .ok ts j->ts.right (Ydf pat)=true/\ts.deep<=100 - deep
 |0,deep,i,acc,ts,j,hd,hr,hq,h=>by cases h; exact⟨hr,hq⟩
 |
  n+1,deep,i,acc,ts,j,hd,hr,hq,h=>by
  have hM:=Ym4 pat;unfold Yc at h;split at h
  ·cases h; exact⟨hr,hq⟩
  ·rename_i t ht
   have hok:=hL t (List.mem_of_getElem? ht);split at h
   ·refine Jh hL en pat n _ _ _ _ _ hd (Ybi hr (Yfs _ _ Zo _ _ Zo)) ?_ h;rw[Ts.deep_app,Ygu]; omega
   ·split at h
    ·rename_i h1 h2
     have hw:Yq 2 t.text 0=true:=by
      unfold Yq;rw[if_neg Zd,if_neg Zd,if_neg Zd,if_neg Zd,if_pos rfl];rcases h2 with h2 | h2
      ·rw[h2] at hok; exact hok
      ·rw[h2] at hok; exact Ym1 hok
     refine Jh hL en pat n _ _ _ _ _ hd (Ybi hr (YaZ Zo hw rfl)) ?_ h;rw[Ts.deep_app]; show max acc.deep (max (if (2:Int)=4\/(2:Int)=8\/(Ts.nil.len≠0) then _ else 0) 0)<=_;rw[if_neg (by simp[Ts.len])]; omega
    ·split at h
     ·rename_i h1 h2 h3
      have hw:Yq 3 t.text 0=true:=by
       unfold Yq;rw[if_neg Zd,if_neg Zd,if_neg Zd,if_neg Zd,if_neg Zd,if_pos rfl];rw[h3] at hok; exact hok
      refine Jh hL en pat n _ _ _ _ _ hd (Ybi hr (YaZ Zo hw rfl)) ?_ h;rw[Ts.deep_app]; show max acc.deep (max (if (3:Int)=4\/(3:Int)=8\/(Ts.nil.len≠0) then _ else 0) 0)<=_;rw[if_neg (by simp[Ts.len])]; omega
     ·split at h
      ·rename_i h1 h2 h3 h5
       have hv:YF t.text=true:=by rw[h5] at hok; exact hok
       obtain⟨v1,v2⟩:=YkY hv (Ydf pat) hM;refine Jh hL en pat n _ _ _ _ _ hd (Ybi hr v1) ?_ h;rw[Ts.deep_app,v2]; omega
      ·split at h
       ·split at h
        ·cases h
        ·obtain⟨kids,j1,hkids,h⟩:=Rd.bind_ok h;obtain⟨_,k,hm,h⟩:=Rd.bind_ok h;obtain⟨r1,r2⟩:=Jh hL en pat n _ _ _ _ _ Zo rfl (by simp[Ts.deep]) hkids;refine Jh hL en pat n _ _ _ _ _ hd (Ybi hr (YaZ Zo Zr r1)) ?_ h;rw[Ts.deep_app]; show max acc.deep (max (if (4:Int)=4\/(4:Int)=8\/(kids.len≠0) then kids.deep+1 else 0) 0)<=_;rw[if_pos (.inl rfl)]; omega
       ·split at h
        ·split at h
         ·cases h
         ·split at h
          ·cases h
          ·rename_i hp _
           obtain⟨nm,m,hnm,h⟩:=Rd.bind_ok h;obtain⟨kids,j1,hkids,h⟩:=Rd.bind_ok h;obtain⟨_,k,hm,h⟩:=Rd.bind_ok h;obtain⟨r1,r2⟩:=Jh hL en pat n _ _ _ _ _ Zo rfl (by simp[Ts.deep]) hkids;have hp8:Ydf pat=8:=by unfold Ydf; rw[if_neg hp]
           have hw:Yq 8 nm kids.len=true:=by
            unfold Yq;rw[if_neg Zd,if_pos rfl];exact YdL hL hnm
           refine Jh hL en pat n _ _ _ _ _ hd (Ybi hr (YaZ Zo hw r1)) ?_ h;rw[Ts.deep_app]; show max acc.deep (max (if (8:Int)=4\/(8:Int)=8\/(kids.len≠0) then kids.deep+1 else 0) 0)<=_;rw[if_pos (.inr (.inl rfl))]; omega
        ·cases h; exact⟨hr,hq⟩
theorem Ydl {L:List Tk}(hL:∀x∈L,okB x.kind x.text=true){en:Nat}{pat:Bool}{i:Nat}{ts:Ts}{j:Nat}(h:Jo L en pat i= .ok ts j):Yy (Ydf pat) ts=0:=by
 unfold Jo at h;obtain⟨l,k,hl,h⟩:=Rd.bind_ok h;unfold JA at h;split at h
 ·cases h
 ·cases h;have:=Jh hL en pat _ _ _ _ _ _ Zo rfl (by simp[Ts.deep]) hl;exact Yab.2 ⟨by omega,by omega,this.1⟩
theorem YeH:∀(l:List (Ts×Ts)) (x:Ts×Ts),J5 l=0->Yy 8 x.1=0->Yy 7 x.2=0->J5 (l++[x])=0
 |[],x,_,h1,h2=>by show orC (orC _ _) 0=0; rw[h1,h2]; rfl
 |
  y::l,x,h,h1,h2=>by
  obtain⟨a,b⟩:=Ye.1 (show orC (orC (Yy 8 y.1) (Yy 7 y.2)) (J5 l)=0 from h);exact Ye.2 ⟨a,YeH l x b h1 h2⟩
theorem Ss.form_app (blocks:Nat):∀a b:Ss,a.form blocks=0->b.form blocks=0->(a.app b).form blocks=0
 |.nil,b,_,hb=>hb
 |
  .cons l t r s k rest,b,ha,hb=>by
  unfold Ss.form at ha;obtain⟨h1,h2⟩:=Ye.1 ha;show orC _ _=0;exact Ye.2 ⟨h1,Ss.form_app blocks rest b h2 hb⟩
mutual
theorem YhX {L:List Tk}(hL:∀x∈L,okB x.kind x.text=true)(en:Nat):∀(n blocks i:Nat) (left:Ts) (tests:List (Ts×Ts)) (s:Ss) (j:Nat),Yy 7 left=0->J5 tests=0->Y9 L en n blocks i left tests= .ok s j->s.form blocks=0/\s.len=1
 |0,_,_,_,_,_,_,_,_,h=>by unfold Y9 at h; cases h
 |
  n+1,blocks,i,left,tests,s,j,hl,ht,h=>by
  unfold Y9 at h;split at h
  ·obtain⟨e,j1,he,h⟩:=Rd.bind_ok h;obtain⟨_,k,hm,h⟩:=Rd.bind_ok h;have he8:=Ydl hL he;split at h
   ·split at h
    ·cases h
    ·rename_i hb
     obtain⟨b,m,hbl,h⟩:=Rd.bind_ok h;cases h;obtain⟨f1,f2⟩:=Yf4 hL en n (blocks+1) _ _ _ hbl;refine⟨?_,rfl⟩;unfold Ss.form;have he8':Yy 8 e=0:=he8;rw[hl,ht,if_neg f2,if_pos (show Ts.nil.len=0 from rfl),if_pos Zo,he8',f1];rfl
   ·obtain⟨p,m,hp,h⟩:=Rd.bind_ok h;exact YhX hL en n blocks _ _ _ _ _ hl (YeH _ (e,p) ht (show Yy 8 e=0 from he8) (show Yy 7 p=0 from Ydl hL hp)) h
  ·obtain⟨_,k,hm,h⟩:=Rd.bind_ok h;obtain⟨r,q,hr,h⟩:=Rd.bind_ok h;cases h;have hr8:Yy 8 r=0:=Ydl hL hr;refine⟨?_,rfl⟩;unfold Ss.form;rw[hl,ht,if_pos (show Ss.nil.len=0 from rfl),if_pos (show Ts.nil.len=0 from rfl),hr8];rfl
theorem Yf4 {L:List Tk}(hL:∀x∈L,okB x.kind x.text=true)(en:Nat):∀(n blocks i:Nat) (s:Ss) (j:Nat),YA L en n blocks i= .ok s j->s.form blocks=0/\s.len≠0
 |0,_,_,_,_,h=>by unfold YA at h; cases h
 |
  n+1,blocks,i,s,j,h=>by
  unfold YA at h;split at h
  ·cases h
  ·exact Yil hL en n blocks _ _ _ _ rfl h
theorem Yil {L:List Tk}(hL:∀x∈L,okB x.kind x.text=true)(en:Nat):∀(n blocks i:Nat) (acc s:Ss) (j:Nat),acc.form blocks=0->JD L en n blocks i acc= .ok s j->s.form blocks=0/\s.len≠0
 |0,_,_,_,_,_,_,h=>by unfold JD at h; cases h
 |
  n+1,blocks,i,acc,s,j,ha,h=>by
  unfold JD at h;obtain⟨left,j1,hl,h⟩:=Rd.bind_ok h;obtain⟨x,k,hx,h⟩:=Rd.bind_ok h;obtain⟨f1,f2⟩:=YhX hL en n blocks _ _ _ _ _ (Ydl hL hl) rfl hx;have hA:=Ss.form_app blocks _ _ ha f1;split at h
  ·split at h
   ·cases h; exact⟨hA,by rw[Ss.len_app]; omega⟩
   ·exact Yil hL en n blocks _ _ _ _ hA h
  ·split at h
   ·cases h; exact⟨hA,by rw[Ss.len_app]; omega⟩
   ·cases h
end
theorem Ydk:∀(l:List ByteArray) (s:ByteArray),JE l=0->Yh 40 s=true->JE (l++[s])=0
 |[],s,_,h=>by show orC (J6 s) 0=0; unfold J6; rw[if_pos h]; rfl
 |
  x::l,s,h,hs=>by
  obtain⟨a,b⟩:=Ye.1 (show orC (J6 x) (JE l)=0 from h);exact Ye.2 ⟨a,Ydk l s b hs⟩
theorem Yfi:∀(l:List Fn) (f:Fn),Jw l=0->Yh 40 f.name=true->f.sents.len≠0->f.sents.form 0=0->Jw (l++[f])=0
 |[],f,_,h1,h2,h3=>by show orC (orC (J6 f.name) _) (orC _ 0)=0; unfold J6; rw[if_pos h1,if_neg h2,h3]; rfl
 |
  x::l,f,h,h1,h2,h3=>by
  obtain⟨a,b⟩:=Ye.1 (show orC (orC (J6 x.name) _) (orC (x.sents.form 0) (Jw l))=0 from h);obtain⟨c,d⟩:=Ye.1 b;exact Ye.2 ⟨a,Ye.2 ⟨c,Yfi l f d h1 h2 h3⟩⟩
theorem YkD {L:List Tk}(hL:∀x∈L,okB x.kind x.text=true)(en:Nat):∀(n i:Nat) (acc l:List ByteArray) (j:Nat),JE acc=0->extN L en n i acc= .ok l j->JE l=0
 |0,_,_,_,_,_,h=>by cases h
 |
  n+1,i,acc,l,j,ha,h=>by
  unfold extN at h;obtain⟨s,k,hs,h⟩:=Rd.bind_ok h;have hA:=Ydk acc s ha (YdL hL hs);split at h
  ·exact YkD hL en n _ _ _ _ hA h
  ·cases h; exact hA
theorem Jz {m:Md}:Yat m=0↔JE m.externs=0/\Jw m.funcs=0:=Ye
theorem Ynk {L:List Tk}(hL:∀x∈L,okB x.kind x.text=true){en i:Nat}{m m':Md}{j:Nat}(hm:Yat m=0)(h:JY L en i m= .ok m' j):Yat m'=0:=by
 obtain⟨h1,h2⟩:=Jz.1 hm;unfold JY at h;split at h
 ·obtain⟨l,k,hl,h⟩:=Rd.bind_ok h;obtain⟨_,q,_,h⟩:=Rd.bind_ok h;cases h;exact Jz.2 ⟨YkD hL en _ _ _ _ _ h1 hl,h2⟩
 ·obtain⟨nm,k,hn,h⟩:=Rd.bind_ok h;obtain⟨_,q,_,h⟩:=Rd.bind_ok h;obtain⟨b,r,hb,h⟩:=Rd.bind_ok h;cases h;obtain⟨f1,f2⟩:=Yf4 hL en _ _ _ _ _ hb;exact Jz.2 ⟨h1,Yfi _ _ h2 (YdL hL hn) f2 f1⟩
theorem Ygk {L:List Tk}(hL:∀x∈L,okB x.kind x.text=true)(en:Nat):∀(n i:Nat) (m m':Md) (j:Nat),Yat m=0->Y2 L en n i m= .ok m' j->Yat m'=0
 |0,_,_,_,_,_,h=>by cases h
 |
  n+1,i,m,m',j,hm,h=>by
  unfold Y2 at h;split at h
  ·obtain⟨m1,k,h1,h⟩:=Rd.bind_ok h;exact Ygk hL en n _ _ _ _ (Ynk hL hm h1) h
  ·cases h; exact hm
theorem Yh8 {s:ByteArray}{m:Md}{j:Nat}(h:readB s= .ok m j):Yat m=0:=by
 unfold readB at h;split at h
 ·cases h
 ·rename_i l sp hs
  exact Ygk (Yf6 hs) _ _ _ _ _ _ rfl h
theorem Yd5:(Tryz.prog.info? 142).map (·.size)=some 2:=by kernel_rfl
theorem Yim:liesAt Tryz.prog Tryz.prog.depth 142 (2 / Tryz.prog.cellsOf 142) 0 142 1=true:=by kernel_rfl
theorem Yfe:(Tryz.prog.info? 5).map (fun i=>(i.zero,i.size,i.bytes))=some (some (.int .u8 0),1,1):=by kernel_rfl
abbrev IsB (B b:Nat)(bs:List Value)(w:World):Prop:=Lib.IsBuilder 142 5 B b bs w
abbrev YlK (B b:Nat)(bs:List Value)(w:World):Prop:=Lib.BuilderAt 142 5 B b (.pointer (some ⟨b,0,none⟩)) bs w
theorem Yfq (b:Nat)(w:World)(h0:w.cell? ⟨b,0,none⟩=some (.pointer (some ⟨b,0,none⟩))):
 Calls Tryz.prog 129 #[.pointer (some ⟨b,0,none⟩)] w fun e w'=>e= .returned (.tuple #[])/\w'=w:=by
 obtain⟨j,hj,_⟩:=Option.map_eq_some_iff.1 Yd5;have hr:=Lib.run_neq_ptr_same w ⟨b,0,none⟩ Tryz.underlying140 hj;go_enter Tryz.func129,Tryz.ntmps129;go_wp2;try(rw[hr]; go_wp2)
 go_end0
 exact⟨rfl,rfl⟩
theorem YdW (b:Nat)(w:World)(h0:w.cell? ⟨b,0,none⟩=some (.pointer none))(hsh:w.shape? b=some (142,2))(hfz:w.frozen? ⟨b,0,none⟩=false):
 Calls Tryz.prog 129 #[.pointer (some ⟨b,0,none⟩)] w fun e w'=>e= .returned (.tuple #[])/\w'=w.setCell ⟨b,0,none⟩ (.pointer (some ⟨b,0,none⟩)):=by
 obtain⟨j,hj,hjs⟩:=Option.map_eq_some_iff.1 Yd5;go_enter Tryz.func129,Tryz.ntmps129;go_wp2;rw[Lib.run_to_unsafe w ⟨b,0,none⟩ Tryz.underlying140 Tryz.underlying247 hj (by rw[hjs]; decide) hsh (Nat.zero_lt_succ 1)];simp only[Result.andThen];rw[Oper.upon_value];go_wp2;rw[run_callFunc_extern Tryz.func176 (by kernel_rfl) (by kernel_rfl) (by kernel_rfl) (e:=Extern.AbiNoEscape.same) (by kernel_rfl)];rw[Lib.run_noEscape];simp only[Result.andThen];rw[Oper.upon_value];go_wp2;rw[Lib.run_from_unsafe w ⟨b,0,none⟩ Tryz.underlying247 Tryz.underlying140 hj hsh Yim];simp only[Result.andThen];rw[Oper.upon_value];go_wp2;go_end0
 exact⟨rfl,rfl⟩
theorem YkG (B b:Nat)(bs:List Value)(w:World)(h:IsB B b bs w):
 Calls Tryz.prog 129 #[.pointer (some ⟨b,0,none⟩)] w fun e w'=>e= .returned (.tuple #[])/\(YlK B b bs w'/\Below B w w'):=by
 rcases h with h | h
 ·exact(YdW b w h.cell0 h.shape h.frozen0).mono fun e w' q=>⟨q.1,by rw[q.2]; exact⟨h.used _,(Below.refl B w).setCell (p:=⟨b,0,none⟩) h.1 _⟩⟩
 ·exact(Yfq b w h.cell0).mono fun e w' q=>⟨q.1,by rw[q.2]; exact⟨h,Below.refl B _⟩⟩
theorem J2 (B b:Nat)(bs:List Value)(s:ByteArray)(w:World)(h:IsB B b bs w)(hlen:bs.length+s.size<=140737488355328)(hBw:B<=w.heap.size):
 Calls Tryz.prog 83 #[.pointer (some ⟨b,0,none⟩),.string s] w fun e w'=>e= .returned (.tuple #[.int .i64 s.size,.nilIface])/\(YlK B b (bs++Lib.strCells s) w'/\Below B w w'):=by
 obtain⟨i0,hi,hz0,hz1,hz2⟩:=info_parts Yfe;go_enter Tryz.func83,Tryz.ntmps83;go_wp2_with fail;refine(YkG B b bs _ h).mono ?_;rintro e w1 ⟨rfl,h1,hb1⟩;obtain⟨hB,v,hbk,hown,hne⟩:=h1;have c0:w1.cell? ⟨b,0,none⟩=some (.pointer (some ⟨b,0,none⟩)):=by simp[World.cell?,hbk]
 have c1:w1.cell? ⟨b,1,none⟩=some v:=by simp[World.cell?,hbk]
 have hsz:=hb1.size;go_wp2_with (at_builtin; refine Lib.wpList_append_own_string _ rfl _ _ 129 9 rfl B 5 i0 Tryz.underlying129 Tryz.underlying9 hi hz0 hz1 hz2 _ _ _ rfl hown s rfl (by unfold maxLen; omega) Zo Zo ?_);intro v' w2 hown' hgrow _;have hlt:b<w1.heap.size:=(Zg hbk).1;have hb2:=(hgrow.block b hlt (fun e=>hne e.symm)).trans hbk;have d0:w2.cell? ⟨b,0,none⟩=some (.pointer (some ⟨b,0,none⟩)):=by simp[World.cell?,hb2]
 have d1:w2.cell? ⟨b,1,none⟩=some v:=by simp[World.cell?,hb2]
 have f1:w2.frozen? ⟨b,1,none⟩=false:=by simp[World.frozen?,hb2]
 obtain⟨ao,n',cap,rfl⟩:∃ao n' cap,v'= .slice ao n' cap:=by
  rcases hown'.2 with⟨hv,_⟩ | ⟨g,cap,cur,hv,_⟩
  ·exact⟨_,_,_,hv⟩
  ·exact⟨_,_,_,hv⟩
 go_wp2;go_ret2
 refine⟨rfl,?_,?_⟩
 ·exact Lib.BuilderAt.put (T:=142) (e:=5) hB hb2 (bs':=bs++Lib.strCells s) (by simpa[Lib.strCells_length] using hown') Zd
 ·exact(hb1.grown hgrow Zo (fun k hk=>(hown.lt k hk).1)).setCell (p:=⟨b,1,none⟩) hB _
theorem Yhp (B b:Nat)(bs:List Value)(c:Int)(w:World)(h:IsB B b bs w)(hlen:bs.length+1<=140737488355328)(hBw:B<=w.heap.size):
 Calls Tryz.prog 82 #[.pointer (some ⟨b,0,none⟩),.int .u8 c] w fun e w'=>e= .returned .nilIface/\(YlK B b (bs++[.int .u8 c]) w'/\Below B w w'):=by
 obtain⟨i0,hi,hz0,hz1,hz2⟩:=info_parts Yfe;go_enter Tryz.func82,Tryz.ntmps82;go_wp2_with fail;refine(YkG B b bs _ h).mono ?_;rintro e w1 ⟨rfl,h1,hb1⟩;obtain⟨hB,v,hbk,hown,hne⟩:=h1;have c0:w1.cell? ⟨b,0,none⟩=some (.pointer (some ⟨b,0,none⟩)):=by simp[World.cell?,hbk]
 have c1:w1.cell? ⟨b,1,none⟩=some v:=by simp[World.cell?,hbk]
 have hsz:=hb1.size;go_wp2_with (at_builtin; refine wpList_append_own _ rfl _ _ 129 rfl B 5 i0 (.int .u8 0) 1 1 Tryz.underlying129 hi hz0 hz1 hz2 rfl Zd _ _ _ rfl (hown.alloc _) ⟨w1.heap.size,0,none⟩ 1 1 [.int .u8 c] rfl rfl (World.news_of_block (cs:=#[.int .u8 c]) (t:=5) (fr:=(0,0)) (heap_alloc_new _ _)) (by simp[Value.oneCell']) (by unfold maxLen; omega) Zo (by simp<;>omega) ?_);intro v' w2 hown' hgrow _;have hlt:b<w1.heap.size:=(Zg hbk).1;have hb2:=(hgrow.block b (by simp; omega) (fun e=>hne e.symm)).trans ((Below.heap_alloc _ _ b hlt).trans hbk);have d0:w2.cell? ⟨b,0,none⟩=some (.pointer (some ⟨b,0,none⟩)):=by simp[World.cell?,hb2]
 have d1:w2.cell? ⟨b,1,none⟩=some v:=by simp[World.cell?,hb2]
 have f1:w2.frozen? ⟨b,1,none⟩=false:=by simp[World.frozen?,hb2]
 obtain⟨ao,n',cap,rfl⟩:∃ao n' cap,v'= .slice ao n' cap:=by
  rcases hown'.2 with⟨hv,_⟩ | ⟨g,cap,cur,hv,_⟩
  ·exact⟨_,_,_,hv⟩
  ·exact⟨_,_,_,hv⟩
 go_wp2;go_ret;refine⟨rfl,?_,?_⟩
 ·exact Lib.BuilderAt.put (T:=142) (e:=5) hB hb2 (bs':=bs++[.int .u8 c]) (by simpa using hown') Zd
 ·exact((hb1.alloc Zo _).grown hgrow (by simp; omega) (fun k hk=>(hown.lt k hk).1)).setCell (p:=⟨b,1,none⟩) hB _
end Go.Proofs.YteamjdmhdfjopaaGreatDoor
