/- A part of the proof; it holds the texts Rfg Rfh Rfj Rfk (names and blanks shortened). -/
import Derived.Test.YteamjdmhdfjopaaGreatDoorM38
import Derived.BigRegion
import Derived.Test.YteamjdmhdfjopaaGreatDoorM5
import Derived.Test.YteamjdmhdfjopaaGreatDoorM1
namespace Go.Proofs.YteamjdmhdfjopaaGreatDoor
open Go.RowKit
set_option maxRecDepth 100000
set_option maxHeartbeats 8000000
set_option linter.unusedVariables false
set_option linter.unusedSimpArgs false
set_option linter.unnecessarySimpa false
structure RtS (ao:Option Addr)(cap:Nat)(L:List Tk)(en:Nat)(w wr:World)(v:Value)(acc:Ts)(i a c:Int):Prop where
 fr:Fr w wr [(#[.slice ao L.length cap,.int .i64 i,.int .i64 en,.int .i64 a,.int .i64 c],85),(#[.slice none 0 0,.int .i64 0,.int .i64 0,.int .i64 0,.int .i64 0],85)]
 own:OwnR wr (w.heap.size+2) 223 3 v acc.len (tsF acc)
section
variable {ao:Option Addr}{cap:Nat}{L:List Tk}{en:Nat}{w wr w1 w3:World}{v v3:Value}{acc l2:Ts}{i a c:Int}
theorem RtS.next (h:RtS ao cap L en w wr v acc i a c)(hb:Below wr.heap.size wr w1):RtS ao cap L en w w1 v acc i a c:=⟨h.fr.next hb,h.own.below (Yd _) hb⟩
theorem RtS.push (h:RtS ao cap L en w wr v acc i a c)(own3:OwnR w3 (w.heap.size+2) 223 3 v3 (acc.len+l2.len) (tsF (acc.app l2)))(hK:Keep (fun k=>v.ownBlock=some k) wr w3):RtS ao cap L en w w3 v3 (acc.app l2) i a c:=
 ⟨h.fr.keep hK (fun k q=>(h.own.own_lt k q).1),by rw[Ts.len_app]; exact own3⟩
theorem RtS.setI (h:RtS ao cap L en w wr v acc i a c)(i':Int):RtS ao cap L en w (wr.setCell ⟨w.heap.size,1,none⟩ (.int .i64 i')) v acc i' a c:=
 ⟨h.fr.setCellAt 0 rfl 1 (.int .i64 i') rfl,h.own.keep (Yd _) (Keep.of_setCell wr ⟨w.heap.size,1,none⟩ (.int .i64 i')) (fun k q=>by have:k=w.heap.size:=q; omega)⟩
theorem RtS.setR (h:RtS ao cap L en w wr v acc i a c)(i' a' c':Int):RtS ao cap L en w (wr.setRow w.heap.size #[.slice ao L.length cap,.int .i64 i',.int .i64 en,.int .i64 a',.int .i64 c']) v acc i' a' c':=
 ⟨h.fr.setRowAt 0 rfl _ rfl,h.own.keep (Yd _) (Keep.of_setRow wr w.heap.size _) (fun k q=>by omega)⟩
end
theorem RtS.ret {ao:Option Addr}{cap:Nat}{L:List Tk}{en:Nat}{w wr:World}{v:Value}{acc:Ts}{i a c:Int}(h:RtS ao cap L en w wr v acc i a c):
 (((((wr.setCell ⟨w.heap.size+1,0,none⟩ (.slice ao L.length cap)).setCell ⟨w.heap.size+1,1,none⟩ (.int .i64 i)).setCell ⟨w.heap.size+1,2,none⟩ (.int .i64 en)).setCell ⟨w.heap.size+1,3,none⟩ (.int .i64 a)).setCell ⟨w.heap.size+1,4,none⟩ (.int .i64 c)).heap[w.heap.size+1]? =some (.cells #[.slice ao L.length cap,.int .i64 i,.int .i64 en,.int .i64 a,.int .i64 c] 85 (0,0))/\
 Below w.heap.size w (((((wr.setCell ⟨w.heap.size+1,0,none⟩ (.slice ao L.length cap)).setCell ⟨w.heap.size+1,1,none⟩ (.int .i64 i)).setCell ⟨w.heap.size+1,2,none⟩ (.int .i64 en)).setCell ⟨w.heap.size+1,3,none⟩ (.int .i64 a)).setCell ⟨w.heap.size+1,4,none⟩ (.int .i64 c))/\
 TsV (((((wr.setCell ⟨w.heap.size+1,0,none⟩ (.slice ao L.length cap)).setCell ⟨w.heap.size+1,1,none⟩ (.int .i64 i)).setCell ⟨w.heap.size+1,2,none⟩ (.int .i64 en)).setCell ⟨w.heap.size+1,3,none⟩ (.int .i64 a)).setCell ⟨w.heap.size+1,4,none⟩ (.int .i64 c)) (fun k=>w.heap.size<=k) v acc:=by
 have n:=Yx wr (w.heap.size+1) _ _ _ _ _ (.slice ao L.length cap) (.int .i64 i) (.int .i64 en) (.int .i64 a) (.int .i64 c) (h.fr.at 1 rfl rfl);have k:=Yw wr (w.heap.size+1) (.slice ao L.length cap) (.int .i64 i) (.int .i64 en) (.int .i64 a) (.int .i64 c);exact⟨n,h.fr.below.trans (k.below h.fr.below.size (fun i hi q=>by omega)),h.own.tsV.keep (fun x q hk=>k.block x hk Zo) (fun x q _=>by omega)⟩
def rtM (b:Nat)(m:Nat)(w:World):Nat:=match w.cell? ⟨b,1,none⟩,w.cell? ⟨b,4,none⟩ with
 |some (.int _ i),some (.int _ c)=>if c=0 then m+1 - i.toNat else 0
 |_,_=>0
theorem RtS.m {ao:Option Addr}{cap:Nat}{L:List Tk}{en:Nat}{w wr:World}{v:Value}{acc:Ts}{i a c:Int}(h:RtS ao cap L en w wr v acc i a c):rtM w.heap.size L.length wr=if c=0 then L.length+1 - i.toNat else 0:=by
 obtain⟨_,r1,_,_,r4⟩:=row5 (h.fr.at 0 (b:=w.heap.size) rfl rfl);unfold rtM;rw[r1,r4]
theorem YlK {L:List Tk}{en:Nat}{pat:Bool}{n d i:Nat}{call:Bool}{x:Int×ByteArray×Ts}{k:Nat}(hs:∀x∈L,x.text.size<=40000)(hi:i<L.length)(h:brkN L en pat n call d i= .ok x k):x.2.2.nodes+1+i*40001<=k*40001/\k<=L.length:=by
 have key:∀X kind sign,brkX L en pat n d X kind sign= .ok x k->(∀y m,X= .ok y m->i<m/\m<=L.length)->x.2.2.nodes+1+i*40001<=k*40001/\k<=L.length:=by
  intro X kind sign h hm;obtain⟨nm,m,h0,h⟩:=Rd.bind_inv h;obtain⟨kids,j1,h1,h⟩:=Rd.bind_inv h;obtain⟨_,k,h2,h⟩:=Rd.bind_inv h;cases h;have e0:=hm _ _ h0;have e1:=YdQ hs n _ _ _ _ _ e0.2 h1;have e2:=YG h2;have e3:=YeS e2.1;have e4:=e2.2;have e5:(i+1)*40001<=m*40001:=Nat.mul_le_mul_right _ e0.1;have e6:j1*40001<=k*40001:=Nat.mul_le_mul_right _ Zo;rw[Nat.add_mul] at e5;simp only[Ts.nodes] at e1;show kids.nodes+1+i*40001<=k*40001/\k<=L.length;omega
 cases call with
 |true=>exact key (Yz L en (i+1)) 8 Yeu h (fun y m q=>by have:=JD q; have:=Ygq q; omega)
 |false=>exact key (.ok ⟨#[]⟩ (i+1)) 4 YcF h (fun y m q=>by cases q; omega)
def Yfi (ao:Option Addr)(cap:Nat)(L:List Tk)(en:Nat)(pat:Bool)(deep i0:Nat)(R:Rd Ts)(w:World)(v:Value)(wr:World):Prop:=
 ∃(acc:Ts) (i a c:Int),RtS ao cap L en w wr v acc i a c/\acc.nodes+i0*40001<=(L.length+1)*40001/\
  ((∃j n:Nat,i=j/\a=0/\c=0/\i0<=j/\j<=L.length/\L.length - j<n/\Yb L en pat n deep j acc=R/\acc.nodes+i0*40001<=j*40001)\/(∃(A:Nat) (C:Int),a=A/\c=C/\¬C=0/\R= .bad A C))
theorem Yfi.good {ao:Option Addr}{cap:Nat}{L:List Tk}{en:Nat}{pat:Bool}{deep i0:Nat}{R:Rd Ts}{w wr:World}{v:Value}{acc l2:Ts}{i j n:Nat}{i':Int}(hS:RtS ao cap L en w wr v (acc.app l2) i' 0 0)(hi':i'=j)(h0:i0<=i)(hij:i<j)(hj:j<=L.length)(hn:L.length - i<n+1)
 (he:Yb L en pat (n+1) deep i acc=Yb L en pat n deep j (acc.app l2))(hR:Yb L en pat (n+1) deep i acc=R)(hb:acc.nodes+i0*40001<=i*40001)(hl:l2.nodes+i*40001<=j*40001):Yfi ao cap L en pat deep i0 R w v wr:=by
 have e1:j*40001<=(L.length+1)*40001:=Nat.mul_le_mul_right _ Zo;refine⟨_,_,_,_,hS,by rw[Ts.nodes_app]; omega,.inl ⟨j,n,hi',rfl,rfl,by omega,hj,by omega,by rw[<-he]; exact hR,by rw[Ts.nodes_app]; omega⟩⟩
theorem Yi3 {L:List Tk}{en:Nat}{pat:Bool}{n deep i:Nat}{acc:Ts}{t:Tk}(hs:∀x∈L,x.text.size<=40000)(hi:i<L.length)(hx:L[i]? =some t)(hk:t.kind=6)(ht:t.text=Ya5\/t.text=JL)(hp:(decide (t.text=JL)&&pat)=false)(hd:¬100<=deep){R:Rd Ts}(hR:Yb L en pat (n+1) deep i acc=R){j a c:Int}
 (hst:StOk L (brkN L en pat n (isN L i 6 JL) (deep+1) i) j a c){kk:Int}{tt:ByteArray}{kids:Ts}(hkk:∀x k,brkN L en pat n (isN L i 6 JL) (deep+1) i= .ok x k->x=(kk,tt,kids)):
 (∃k2:Nat,j=k2/\a=0/\c=0/\i<k2/\k2<=L.length/\Yb L en pat (n+1) deep i acc=Yb L en pat n deep k2 (acc.app (oneT kk tt kids))/\(oneT kk tt kids).nodes+i*40001<=k2*40001)\/(∃(A:Nat) (C:Int),a=A/\c=C/\¬C=0/\R= .bad A C):=by
 have hin:isN L i 6 JL=decide (t.text=JL):=by unfold isN; rw[hx]; dsimp only; rw[hk]; rfl
 have hopen:=Ybd (en:=en) (pat:=pat) (n:=n) (deep:=deep) (acc:=acc) hx hk ht;have hinn:Jd L en pat n (decide (t.text=JL)) deep i=brkN L en pat n (decide (t.text=JL)) (deep+1) i:=by
  unfold Jd brkN;rw[hp,if_neg Zd,if_neg hd]
 rw[hinn,<-hin] at hopen;cases hB:brkN L en pat n (isN L i 6 JL) (deep+1) i with
 |
  bad A C=>
  rw[hB] at hst hopen;obtain⟨rfl,rfl,hC⟩:=hst;exact .inr ⟨A,_,rfl,rfl,hC,by rw[<-hR,hopen]; rfl⟩
 |
  ok x k=>
  have hn:=YlK hs hi hB;rw[hB] at hst hopen hkk;obtain⟨rfl,rfl,rfl,hk2⟩:=hst;have hx2:=hkk x k rfl;subst hx2;have hn1:kids.nodes+1+i*40001<=k*40001:=hn.1;refine .inl ⟨k,rfl,rfl,rfl,Nat.lt_of_mul_lt_mul_right (a:=40001) Zo,hk2,hopen,?_⟩;simp only[oneT,Ts.nodes];omega
theorem one_step {i:Nat}{m:Nat}(h:m<=40001):m+i*40001<=(i+1)*40001:=by rw[Nat.add_mul]; omega
theorem Yey (ao:Option Addr)(cap:Nat)(L:List Tk)(en:Nat)(pat:Bool)(deep i0 n0:Nat)(w:World)(hL:RL L)(hT:RTok ao L w)(hi0:i0<=L.length)(hdeep:deep<=100)(hn0:L.length - i0<n0)
 (IH:∀(n j:Nat) (w':World),i0<=j->j<L.length->L.length - j<n+1->deep<100->RTok ao L w'->Calls Tryz.prog 195 #[rV ao cap L en j 0 0,.bool (!pat),.int .i64 ((deep:Int)+1)] w' (YoK ao cap L en j (brkN L en pat n (isN L j 6 JL) (deep+1) j) w')):
 Calls Tryz.prog 140 #[rV ao cap L en i0 0 0,.bool (!pat),.int .i64 deep] w (YgC ao cap L en pat n0 deep (.ok () i0:Rd Unit) w):=by
 generalize hc:(!pat)=calls at IH⊢;obtain rfl:pat=!calls:=by rw[<-hc,Bool.not_not]
 clear hc;have HL:=Zh hL;have HTK:=Zh hT;have HI:Hid _:=IH;clear hL hT IH;have hS0:RtS ao cap L en w (((w.alloc (.cells #[.slice ao L.length cap,.int .i64 i0,.int .i64 en,.int .i64 0,.int .i64 0] 85)).alloc (.cells #[.slice none 0 0,.int .i64 0,.int .i64 0,.int .i64 0,.int .i64 0] 85)).alloc (.cells #[] 223)) (.slice (some ⟨w.heap.size+1+1,0,none⟩) 0 0) .nil i0 0 0:=by
  have h2:Fr w ((w.alloc (.cells #[.slice ao L.length cap,.int .i64 i0,.int .i64 en,.int .i64 0,.int .i64 0] 85)).alloc (.cells #[.slice none 0 0,.int .i64 0,.int .i64 0,.int .i64 0,.int .i64 0] 85)) [(#[.slice ao L.length cap,.int .i64 i0,.int .i64 en,.int .i64 0,.int .i64 0],85),(#[.slice none 0 0,.int .i64 0,.int .i64 0,.int .i64 0,.int .i64 0],85)]:=((Fr.start w).alloc Zs _ _).alloc Zs _ _;refine⟨h2.next (below_alloc1 _ _),OwnR.empty ?_ (Nat.le_refl _) (fun _=>rfl)⟩;have:=heap_alloc_new ((w.alloc (.cells #[.slice ao L.length cap,.int .i64 i0,.int .i64 en,.int .i64 0,.int .i64 0] 85)).alloc (.cells #[.slice none 0 0,.int .i64 0,.int .i64 0,.int .i64 0,.int .i64 0] 85)) (.cells #[] 223);simpa using this
 have HS0:=Zh hS0;clear hS0;generalize hR:Yb L en (!calls) n0 deep i0 .nil=R;have hP:∀r' v l w',Below w.heap.size w w'->rSt ao cap L en R r'->TsV w' (fun k=>w.heap.size<=k) v l->(∀x j,R= .ok x j->l=x)->l.nodes<=(L.length+1 - i0)*40001->YgC ao cap L en (!calls) n0 deep (.ok () i0:Rd Unit) w (.returned (.tuple #[r',v])) w':=fun r' v l w' h1 h2 h3 h4 h5=>⟨h1,r',v,l,rfl,by subst hR; exact h2,h3,fun x j q=>h4 x j (by rw[<-hR]; exact q),fun x m q=>by cases q; exact h5,fun A C q=>by cases q⟩;have HP:=Zh hP;generalize YgC ao cap L en (!calls) n0 deep (.ok () i0:Rd Unit) w=POST at HP⊢;have HR:=Zh hR;have HN0:=Zh hn0;clear hP hR hn0;unfold rV;go_enter Tryz.func140,Tryz.ntmps140;go_wp2;go_loopw [8] (fun v wr=>Yfi ao cap L en (!calls) deep i0 R w v wr) (fun _ wr=>rtM w.heap.size L.length wr)
 case atStart=>exact⟨.nil,i0,0,0,HS0.out,by simp only[Ts.nodes]; have:=Nat.mul_le_mul_right 40001 (show i0<=L.length+1 by omega); omega,.inl ⟨i0,n0,rfl,rfl,rfl,Nat.le_refl _,hi0,HN0.out,HR.out,by simp[Ts.nodes]⟩⟩
 case round=>
  clear HS0 HR HN0;obtain⟨acc,i,a,c,hS,hB,hcase⟩:=hrel;rcases hcase with⟨i,n,rfl,rfl,rfl,hi0i,hil,hn,hE,hB2⟩ | ⟨A,C,rfl,rfl,hC,hRb⟩
  ·obtain⟨n,rfl⟩:∃q,n=q+1:=⟨n - 1,by omega⟩;obtain⟨r0,r1,r2,r3,r4⟩:=row5 (hS.fr.at 0 (b:=w.heap.size) rfl rfl);have hbound:acc.len<=1700000000:=Nat.le_trans (Ts.len_le acc) (by have:=HL.out.len; have:=Nat.mul_le_mul_right 40001 (show L.length+1<=40001 by omega); omega);have a0:(0:Int)<=(i:Int)+1:=Zo;have a1:(i:Int)<=40000:=by have:=HL.out.len; omega
   have HM:=Zh hS.m;have HB2:=Zh hB2;have HB:=Zh hB;clear hB hB2;have HR1:=Zh hE;by_cases hi:i<L.length
   ·have l0:decide (
     (i:Int)<(L.length:Int))=true:=Zt
    have l1:decide (i<L.length)=true:=decide_eq_true hi;obtain⟨g,off,rfl,hg,d0,d1,d2⟩:=(HTK.out.below hS.fr.below).tok hi;have hx:L[i]? =some L[i]:=List.getElem?_eq_getElem hi;have hts:L[i].text.size<=40000:=HL.out.small _ (List.getElem_mem hi);generalize L[i]=x at d0 d1 d2 hx hts;obtain⟨kind,text,at_⟩:=x;dsimp only at d0 d1 d2 hts;have HTS:=Zh hts;have HX:=Zh hx;clear hts hx hE;by_cases k1:kind=1
    ·subst k1;have HE:Hid (Yb L en (!calls) (n+1) deep i acc=Yb L en (!calls) n deep (i+1) (acc.app (YaI text))):=Zh (Yen HX.out rfl);have hC:=Yjr text (wr.alloc (.cells #[.int .i64 1,.string text,.int .i64 at_] 163)) HTS.out;have HS1:=Zh (hS.next (below_alloc1 wr (.cells #[.int .i64 1,.string text,.int .i64 at_] 163)));clear hS;go_wp2_with fail;refine hC.mono ?_;clear hC;rintro e w2 ⟨v2,rfl,hv2,hb2⟩;obtain⟨ao2,cap2,rfl⟩:=hv2.form;have HS2:=Zh (HS1.out.next hb2);obtain⟨_,xs,hf,hl,h1,hne⟩:=hv2.news;have hz:(YaI text).len=text.size:=Ych _ _ _;have hf2:tsF (YaI text) w2 (fun k=>w.heap.size+2<=k/\u8.ownBlock≠some k) xs:=Ts.flat_to hf (fun k q _=>by
      have q1:(wr.alloc (.cells #[.int .i64 1,.string text,.int .i64 at_] 163)).heap.size<=k:=q;have q2:w.heap.size+2<=(wr.alloc (.cells #[.int .i64 1,.string text,.int .i64 at_] 163)).heap.size:=HS1.out.fr.size;refine⟨by omega,fun e1=>?_⟩;have:=(HS1.out.own.own_lt k e1).2;omega)
     have HNW:=Zh hne;have HF:=Zh hf2;have HL2:=Zh hl;have H1:=Zh h1;have HZ:=Zh hz;clear hne hf hf2 hl h1 hz hv2 hb2;go_wp2_with (
      at_builtin;refine Yn rfl _ _ 35 rfl (w.heap.size+2) 223 3 48 J4 _ _ rfl HS2.out.own (Yd _) (Yd (YaI text)) (J1 _ _) ao2 _ cap2 xs rfl HF.out HL2.out HNW.out H1.out (by have:=HZ.out; have:=HTS.out; omega) Zo (by have:=HS2.out.fr.size; simpa using this) ?_;intro v3 w3 hO3 hK3 hat3;have hS3:=HS2.out.push (l2:=YaI text) hO3 hK3;obtain⟨_,r1,_,_,_⟩:=row5 (hS3.fr.at 0 (b:=w.heap.size) rfl rfl);obtain⟨_,f1,_,_,_⟩:=frz5 (hS3.fr.at 0 (b:=w.heap.size) rfl rfl);have HS:=Zh hS3;clear hO3 hK3 hat3 hS3)
     go_roundw
     case rel=>exact Yfi.good (HS.out.setI _) Zs hi0i Zo Zo hn HE.out HR1.out HB2.out (one_step (by rw[show(YaI text).nodes=text.size from YbM _ _ _]; have:=HTS.out; omega))
     case measure=>
      have e1:=(HS.out.setI ((i:Int)+1)).m;have e2:=HM.out;rw[e1,e2];rw[if_pos rfl];first | rw[if_pos rfl] | rw[if_pos trivial]
      omega
    ·by_cases k2:kind=2
     ·subst k2;have HE:Hid (Yb L en (!calls) (n+1) deep i acc=Yb L en (!calls) n deep (i+1) (acc.app (oneT 2 text .nil))):=Zh (Yck HX.out (.inl rfl));have hnews:=YbW (wr.alloc (.cells #[.int .i64 2,.string text,.int .i64 at_] 163)) (.int .i64 2) (.string text) (.slice none 0 0) 223;have hwz:(wr.alloc (.cells #[.int .i64 2,.string text,.int .i64 at_] 163)).heap.size=wr.heap.size+1:=Zs;rw[hwz] at hnews;have HNW:=Zh hnews;have HS2:=Zh ((hS.next (below_alloc1 wr (.cells #[.int .i64 2,.string text,.int .i64 at_] 163))).next (below_alloc1 _ (.cells #[.int .i64 2,.string text,.slice none 0 0] 223)));clear hS hnews hwz;go_wp2_with (
       at_builtin;refine Yn rfl _ _ 35 rfl (w.heap.size+2) 223 3 48 J4 _ _ rfl HS2.out.own (Yd _) (Yd (oneT 2 text .nil)) (J1 _ _) (some ⟨wr.heap.size+1,0,none⟩) 1 1 [.int .i64 2,.string text,.slice none 0 0] rfl (Ts.flat_single _ _ (TsV.nil _ _)) rfl (fun _=>⟨_,0,rfl,HNW.out⟩) (by simp[Value.oneCell']) Zo Zo (by have:=HS2.out.fr.size; simpa using this) ?_;intro v3 w3 hO3 hK3 hat3;have hS3:=HS2.out.push (l2:=oneT 2 text .nil) hO3 hK3;obtain⟨_,r1,_,_,_⟩:=row5 (hS3.fr.at 0 (b:=w.heap.size) rfl rfl);obtain⟨_,f1,_,_,_⟩:=frz5 (hS3.fr.at 0 (b:=w.heap.size) rfl rfl);have HS:=Zh hS3;clear hO3 hK3 hat3 hS3)
      go_roundw
      case rel=>exact Yfi.good (HS.out.setI _) Zs hi0i Zo Zo hn HE.out HR1.out HB2.out (one_step (by simp[oneT,Ts.nodes]))
      case measure=>
       have e1:=(HS.out.setI ((i:Int)+1)).m;have e2:=HM.out;rw[e1,e2];rw[if_pos rfl];first | rw[if_pos rfl] | rw[if_pos trivial]
       omega
     ·by_cases k3:kind=3
      ·subst k3;clear k1 k2;have HE:Hid (Yb L en (!calls) (n+1) deep i acc=Yb L en (!calls) n deep (i+1) (acc.app (oneT 2 text .nil))):=Zh (Yck HX.out (.inr rfl));have hnews:=YbW (wr.alloc (.cells #[.int .i64 3,.string text,.int .i64 at_] 163)) (.int .i64 2) (.string text) (.slice none 0 0) 223;have hwz:(wr.alloc (.cells #[.int .i64 3,.string text,.int .i64 at_] 163)).heap.size=wr.heap.size+1:=Zs;rw[hwz] at hnews;have HNW:=Zh hnews;have HS2:=Zh ((hS.next (below_alloc1 wr (.cells #[.int .i64 3,.string text,.int .i64 at_] 163))).next (below_alloc1 _ (.cells #[.int .i64 2,.string text,.slice none 0 0] 223)));clear hS hnews hwz;go_wp2_with (
        at_builtin;refine Yn rfl _ _ 35 rfl (w.heap.size+2) 223 3 48 J4 _ _ rfl HS2.out.own (Yd _) (Yd (oneT 2 text .nil)) (J1 _ _) (some ⟨wr.heap.size+1,0,none⟩) 1 1 [.int .i64 2,.string text,.slice none 0 0] rfl (Ts.flat_single _ _ (TsV.nil _ _)) rfl (fun _=>⟨_,0,rfl,HNW.out⟩) (by simp[Value.oneCell']) Zo Zo (by have:=HS2.out.fr.size; simpa using this) ?_;intro v3 w3 hO3 hK3 hat3;have hS3:=HS2.out.push (l2:=oneT 2 text .nil) hO3 hK3;obtain⟨_,r1,_,_,_⟩:=row5 (hS3.fr.at 0 (b:=w.heap.size) rfl rfl);obtain⟨_,f1,_,_,_⟩:=frz5 (hS3.fr.at 0 (b:=w.heap.size) rfl rfl);have HS:=Zh hS3;clear hO3 hK3 hat3 hS3)
       go_roundw
       case rel=>exact Yfi.good (HS.out.setI _) Zs hi0i Zo Zo hn HE.out HR1.out HB2.out (one_step (by simp[oneT,Ts.nodes]))
       case measure=>
        have e1:=(HS.out.setI ((i:Int)+1)).m;have e2:=HM.out;rw[e1,e2];rw[if_pos rfl];first | rw[if_pos rfl] | rw[if_pos trivial]
        omega
      ·by_cases k4:kind=4
       ·subst k4;clear k1 k2 k3;have HE:Hid (Yb L en (!calls) (n+1) deep i acc=Yb L en (!calls) n deep (i+1) (acc.app (oneT 3 text .nil))):=Zh (YgT HX.out rfl);have hnews:=YbW (wr.alloc (.cells #[.int .i64 4,.string text,.int .i64 at_] 163)) (.int .i64 3) (.string text) (.slice none 0 0) 223;have hwz:(wr.alloc (.cells #[.int .i64 4,.string text,.int .i64 at_] 163)).heap.size=wr.heap.size+1:=Zs;rw[hwz] at hnews;have HNW:=Zh hnews;have HS2:=Zh ((hS.next (below_alloc1 wr (.cells #[.int .i64 4,.string text,.int .i64 at_] 163))).next (below_alloc1 _ (.cells #[.int .i64 3,.string text,.slice none 0 0] 223)));clear hS hnews hwz;go_wp2_with (
         at_builtin;refine Yn rfl _ _ 35 rfl (w.heap.size+2) 223 3 48 J4 _ _ rfl HS2.out.own (Yd _) (Yd (oneT 3 text .nil)) (J1 _ _) (some ⟨wr.heap.size+1,0,none⟩) 1 1 [.int .i64 3,.string text,.slice none 0 0] rfl (Ts.flat_single _ _ (TsV.nil _ _)) rfl (fun _=>⟨_,0,rfl,HNW.out⟩) (by simp[Value.oneCell']) Zo Zo (by have:=HS2.out.fr.size; simpa using this) ?_;intro v3 w3 hO3 hK3 hat3;have hS3:=HS2.out.push (l2:=oneT 3 text .nil) hO3 hK3;obtain⟨_,r1,_,_,_⟩:=row5 (hS3.fr.at 0 (b:=w.heap.size) rfl rfl);obtain⟨_,f1,_,_,_⟩:=frz5 (hS3.fr.at 0 (b:=w.heap.size) rfl rfl);have HS:=Zh hS3;clear hO3 hK3 hat3 hS3)
        go_roundw
        case rel=>exact Yfi.good (HS.out.setI _) Zs hi0i Zo Zo hn HE.out HR1.out HB2.out (one_step (by simp[oneT,Ts.nodes]))
        case measure=>
         have e1:=(HS.out.setI ((i:Int)+1)).m;have e2:=HM.out;rw[e1,e2];rw[if_pos rfl];first | rw[if_pos rfl] | rw[if_pos trivial]
         omega
       ·by_cases k5:kind=5
        ·subst k5;clear k1 k2 k3 k4;obtain⟨kv,tv,hvv,hvt⟩:∃kv tv,varV text= .agg #[.int .i64 kv,.string tv,.slice none 0 0]/\varT text .nil=oneT kv tv .nil:=by
          unfold varV varT;by_cases hb:Y2 text=true
          ·rw[if_pos hb,if_pos hb]; exact⟨_,_,rfl,rfl⟩
          ·rw[if_neg hb,if_neg hb]; exact⟨_,_,rfl,rfl⟩
         have HE:Hid (Yb L en (!calls) (n+1) deep i acc=Yb L en (!calls) n deep (i+1) (acc.app (oneT kv tv .nil))):=Zh (by rw[<-hvt]; exact YgR HX.out rfl);have hVV:=Ymv text (wr.alloc (.cells #[.int .i64 5,.string text,.int .i64 at_] 163)) (Nat.le_trans HTS.out Zo);rw[hvv] at hVV;have HS1:=Zh (hS.next (below_alloc1 wr (.cells #[.int .i64 5,.string text,.int .i64 at_] 163)));clear hS hvv hvt;generalize Y2 text=okv at hVV;go_wp2_with fail;refine hVV.mono ?_;clear hVV;rintro e w2 ⟨rfl,hb2⟩;have HS2:=Zh (((HS1.out.next hb2).next (below_alloc1 w2 (.cells #[.int .i64 kv,.string tv,.slice none 0 0] 223))).next (below_alloc1 _ (.cells #[.int .i64 kv,.string tv,.slice none 0 0] 223)));have hnews:=YbW (w2.alloc (.cells #[.int .i64 kv,.string tv,.slice none 0 0] 223)) (.int .i64 kv) (.string tv) (.slice none 0 0) 223;have hwz:(w2.alloc (.cells #[.int .i64 kv,.string tv,.slice none 0 0] 223)).heap.size=w2.heap.size+1:=Zs;rw[hwz] at hnews;have HNW:=Zh hnews;clear hnews hwz hb2;go_wp2_with (
          at_builtin;refine Yn rfl _ _ 35 rfl (w.heap.size+2) 223 3 48 J4 _ _ rfl HS2.out.own (Yd _) (Yd (oneT kv tv .nil)) (J1 _ _) (some ⟨w2.heap.size+1,0,none⟩) 1 1 [.int .i64 kv,.string tv,.slice none 0 0] rfl (Ts.flat_single _ _ (TsV.nil _ _)) rfl (fun _=>⟨_,0,rfl,HNW.out⟩) (by simp[Value.oneCell']) Zo Zo (by have:=HS2.out.fr.size; simpa using this) ?_;intro v3 w3 hO3 hK3 hat3;have hS3:=HS2.out.push (l2:=oneT kv tv .nil) hO3 hK3;obtain⟨_,r1,_,_,_⟩:=row5 (hS3.fr.at 0 (b:=w.heap.size) rfl rfl);obtain⟨_,f1,_,_,_⟩:=frz5 (hS3.fr.at 0 (b:=w.heap.size) rfl rfl);have HS:=Zh hS3;clear hO3 hK3 hat3 hS3)
         go_roundw
         case rel=>exact Yfi.good (HS.out.setI _) Zs hi0i Zo Zo hn HE.out HR1.out HB2.out (one_step (by simp[oneT,Ts.nodes]))
         case measure=>
          have e1:=(HS.out.setI ((i:Int)+1)).m;have e2:=HM.out;rw[e1,e2];rw[if_pos rfl];first | rw[if_pos rfl] | rw[if_pos trivial]
          omega
        ·have hIs:=fun W hb s hs=>YaL (w:=W) HL.out (YaZ (ao:=some ⟨g,off,none⟩) (cap:=cap) (en:=en) (α:=Unit) () hil) (HTK.out.below hb) s hs;have HIs:=Zh hIs;clear hIs;by_cases k6:kind=6
         ·subst k6;clear k1 k2 k3 k4 k5;by_cases ho:text=Ya5
          ·have ht:text=⟨#[40]⟩:=ho;clear ho;subst ht;have hn1:isX L (.ok () i:Rd Unit) 6 Ya5=true:=by
            show isN L i 6 Ya5=true;unfold isN; rw[HX.out]; rfl
           have HO:=Zh (Ybd (en:=en) (pat:=!calls) (n:=n) (deep:=deep) (acc:=acc) HX.out rfl (.inl rfl));have hds:decide ((⟨#[40]⟩:ByteArray)=JL)=false:=Zd;have HDS:=Zh hds;clear hds;have hlt0:w.heap.size<wr.heap.size:=hS.fr.lt (k:=0) Zs;have hI1:=HIs.out (wr.alloc (.cells #[.int .i64 6,.string ⟨#[40]⟩,.int .i64 at_] 163)) ((hS.next (below_alloc1 wr (.cells #[.int .i64 6,.string ⟨#[40]⟩,.int .i64 at_] 163))).fr.below) Ya5 rfl;rw[hn1] at hI1;have HS1:=Zh (hS.next (below_alloc1 wr (.cells #[.int .i64 6,.string ⟨#[40]⟩,.int .i64 at_] 163)));have HS0:=Zh hS;unfold rV at hI1;clear hS hn1;go_wp2_with fail;refine hI1.mono ?_;clear hI1;rintro e w2 ⟨rfl,hb2⟩;have HS2:=Zh (HS1.out.next hb2);have hx2:=(hb2.block wr.heap.size Zs).trans (heap_alloc_new wr (.cells #[.int .i64 6,.string ⟨#[40]⟩,.int .i64 at_] 163));obtain⟨x0,x1,x2⟩:=row3 hx2;have HK2:=Zh ((Keep.of_alloc (S:=fun k=>k=w.heap.size) wr (.cells #[.int .i64 6,.string ⟨#[40]⟩,.int .i64 at_] 163)).trans (Keep.of_below (S:=fun k=>k=w.heap.size) hb2) (fun _ _ q=>q));have HX2:=Zh hx2;clear hb2 hx2;obtain⟨r0,r1,r2,r3,r4⟩:=row5 (HS2.out.fr.at 0 (b:=w.heap.size) rfl rfl);by_cases hd:100<=deep
           ·have g1:decide ((100:Int)<=(deep:Int))=true:=Zt;have g2:decide (100<=deep)=true:=decide_eq_true hd;have hFl:=Yc4 (β:=Ts) (w:=w2) HL.out (YaZ (ao:=some ⟨g,off,none⟩) (cap:=cap) (en:=en) (α:=Unit) () hil) (HTK.out.below HS2.out.fr.below) 54 Zd;have HE:Hid (R=YeZ L en i 54):=Zh (by rw[<-HR1.out,HO.out,show Jd L en (!calls) n _ deep i=YQ L en i 54 from by unfold Jd; rw[HDS.out,Bool.false_and,if_neg Zd,if_pos hd],Yde _ _ _ _ Zd]; rfl);unfold rV at hFl;go_wp2_with fail;refine hFl.mono ?_;clear hFl;rintro e w3 ⟨⟨r',rfl,hX⟩,hb3⟩;obtain⟨j,a,c,rfl,hst⟩:=hX;have HST:=Zh hst;have HS:=Zh (HS2.out.next hb3);clear hb3 hst r0 r1 r2 r3 r4;obtain⟨s0,s1,s2,s3,s4⟩:=row5 (HS.out.fr.at 1 (b:=w.heap.size+1) rfl rfl);obtain⟨f0,f1,f2,f3,f4⟩:=frz5 (HS.out.fr.at 1 (b:=w.heap.size+1) rfl rfl);unfold rV;go_wp2;have n:=Yx w3 (w.heap.size+1) _ _ _ _ _ (.slice (some ⟨g,off,none⟩) L.length cap) (.int .i64 j) (.int .i64 en) (.int .i64 a) (.int .i64 c) (HS.out.fr.at 1 rfl rfl);have k:=Yw w3 (w.heap.size+1) (.slice (some ⟨g,off,none⟩) L.length cap) (.int .i64 j) (.int .i64 en) (.int .i64 a) (.int .i64 c);refine bodyPost_ret (Ya rfl _ _ (w.heap.size+1) 85 _ (0,0) _ (.slice none 0 0) rfl rfl n Tryz.underlying85 rfl Yy) rfl (HP.out _ _ .nil _ (HS.out.fr.below.trans (k.below HS.out.fr.below.size (fun i hi q=>by omega))) ?_ (TsV.nil _ _) ?_ (by simp[Ts.nodes]))
            ·rw[HE.out]; exact⟨_,_,_,rfl,HST.out⟩
            ·intro x j q; rw[HE.out] at q; cases q
           ·have g1:decide (
             (100:Int)<=(deep:Int))=false:=Zf
            have g2:decide (100<=deep)=false:=decide_eq_false hd;have hBr:=HI.out n i (w2.alloc (.cells #[.int .i64 0,.string ⟨#[]⟩,.slice none 0 0] 223)) hi0i hi hn Zo (HTK.out.below (HS2.out.next (below_alloc1 w2 (.cells #[.int .i64 0,.string ⟨#[]⟩,.slice none 0 0] 223))).fr.below);have HS3:=Zh (HS2.out.next (below_alloc1 w2 (.cells #[.int .i64 0,.string ⟨#[]⟩,.slice none 0 0] 223)));have hlt2:w.heap.size<w2.heap.size:=HS2.out.fr.lt (k:=0) Zs;unfold rV at hBr;go_wp2_with fail;refine hBr.mono ?_;clear hBr x0 x1 x2;rintro e w3 ⟨hb3,r',kk,tt,v,kids,rfl,hX,hv,hkk,hnk⟩;obtain⟨j,a,c,rfl,hst⟩:=hX;have HCASE:=Zh (Yi3 HL.out.small hi HX.out rfl (.inl rfl) (by dsimp only; rw[HDS.out]; rfl) hd HR1.out hst hkk);obtain⟨aov,capv,rfl⟩:=hv.form;have HNK:=Zh hnk;have HS4:=Zh (HS3.out.next hb3);have hN:=(hb3.block w2.heap.size Zs).trans (heap_alloc_new w2 (.cells #[.int .i64 0,.string ⟨#[]⟩,.slice none 0 0] 223));have HN:=Zh hN;have HV:=Zh hv;have HK4:=Zh ((HK2.out.trans (Keep.of_alloc (S:=fun k=>k=w.heap.size) w2 (.cells #[.int .i64 0,.string ⟨#[]⟩,.slice none 0 0] 223)) (fun _ _ q=>q)).trans (Keep.of_below (S:=fun k=>k=w.heap.size) hb3) (fun _ _ q=>q));have HZ3:=Zh hb3.size;obtain⟨J2,hJ2⟩:∃x,IntKind.i64.wrap (j - 1)=x:=⟨_,rfl⟩;obtain⟨J3,hJ3⟩:∃x,IntKind.i64.wrap (J2+1)=x:=⟨_,rfl⟩;clear hst hkk hnk hb3 hN hv r0 r1 r2 r3 r4;unfold rV;go_wp2_with (
             first
             |(
               refine wpList_store_row rfl 85 (.tmp 3) (.tmp 107) rfl w.heap.size #[.slice (some ⟨g,off,none⟩) L.length cap,.int .i64 j,.int .i64 en,.int .i64 a,.int .i64 c] rfl rfl 85 _ (HS4.out.fr.at 0 rfl rfl) Yy rfl (YR _ _ _ _ _ _ _ _) ?_;have HS5:=Zh (HS4.out.setR j a c);have HK5:=Zh (HK4.out.trans (Keep.of_setRow w3 w.heap.size #[.slice (some ⟨g,off,none⟩) L.length cap,.int .i64 j,.int .i64 en,.int .i64 a,.int .i64 c]) (fun _ _ q=>q));have HN5:=Zh (((Keep.of_setRow w3 w.heap.size #[.slice (some ⟨g,off,none⟩) L.length cap,.int .i64 j,.int .i64 en,.int .i64 a,.int .i64 c]).block w2.heap.size (Zg HN.out).1 Zo).trans HN.out);have HV5:=Zh (HV.out.keep (T:=fun k=>w2.heap.size+1<=k) (fun k q hk=>(Keep.of_setRow w3 w.heap.size #[.slice (some ⟨g,off,none⟩) L.length cap,.int .i64 j,.int .i64 en,.int .i64 a,.int .i64 c]).block k hk (by have q2:(w2.alloc (.cells #[.int .i64 0,.string ⟨#[]⟩,.slice none 0 0] 223)).heap.size<=k:=q; simp at q2; omega)) (fun k q _=>by have q2:(w2.alloc (.cells #[.int .i64 0,.string ⟨#[]⟩,.slice none 0 0] 223)).heap.size<=k:=q; simpa using q2));generalize World.setRow w3 w.heap.size #[.slice (some ⟨g,off,none⟩) L.length cap,.int .i64 j,.int .i64 en,.int .i64 a,.int .i64 c]=w4 at HS5 HK5 HN5 HV5⊢)
             |(
               refine wpList_store_row rfl 223 (.tmp 12) (.tmp 108) rfl w2.heap.size #[.int .i64 kk,.string tt,.slice aov kids.len capv] rfl rfl 223 _ HN5.out Ybe rfl (YlH _ _ _ _ _ _) ?_;have HN6:=Zh (setRow_heap w4 w2.heap.size _ #[.int .i64 kk,.string tt,.slice aov kids.len capv] _ _ HN5.out);have KR:=Keep.of_setRow w4 w2.heap.size #[.int .i64 kk,.string tt,.slice aov kids.len capv];have HK6:=Zh (HK5.out.trans KR (fun k hk q=>by have q:k=w2.heap.size:=q; have:=HK2.out.size; omega));have HF6:=Zh (HS5.out.fr.keep KR (fun k q=>by have q:k=w2.heap.size:=q; have q3:w.heap.size+2<=w2.heap.size:=HS2.out.fr.size; show w.heap.size+2<=k; omega));have HV6:=Zh (HV5.out.keep (T:=fun k=>w2.heap.size+1<=k) (fun k q hk=>KR.block k hk (by have q:w2.heap.size+1<=k:=q; show ¬k=w2.heap.size; omega)) (fun k q _=>q));clear KR;generalize World.setRow w4 w2.heap.size #[.int .i64 kk,.string tt,.slice aov kids.len capv]=w5 at HN6 HK6 HF6 HV6⊢;have HS6:Hid (RtS (some ⟨g,off,none⟩) cap L en w w5 u8 acc j a c):=Zh ⟨HF6.out,HS0.out.own.keep (Yd _) HK6.out (fun k q=>by have q:k=w.heap.size:=q; omega)⟩;have HS7:=Zh (HS6.out.next (below_alloc1 w5 (.cells #[.int .i64 kk,.string tt,.slice aov kids.len capv] 223)));have HNW:=Zh (YbW w5 (.int .i64 kk) (.string tt) (.slice aov kids.len capv) 223);have HV7:=Zh (HV6.out.below (T:=fun k=>w.heap.size+2<=k/\u8.ownBlock≠some k) (below_alloc1 w5 (.cells #[.int .i64 kk,.string tt,.slice aov kids.len capv] 223)) (fun k q _=>by
                have h1:=HK2.out.size;have h2:w.heap.size+2<=wr.heap.size:=HS0.out.fr.size;refine⟨by omega,fun e1=>?_⟩;have:=(HS0.out.own.own_lt k e1).2;omega))
               obtain⟨t0,t1,t2⟩:=row3 HN6.out)
             |(
               at_builtin;refine Yn rfl _ _ 35 rfl (w.heap.size+2) 223 3 48 J4 _ _ rfl HS7.out.own (Yd _) (Yd (oneT kk tt kids)) (J1 _ _) (some ⟨w5.heap.size,0,none⟩) 1 1 [.int .i64 kk,.string tt,.slice aov kids.len capv] rfl (Ts.flat_single _ _ HV7.out) rfl (fun _=>⟨_,0,rfl,HNW.out⟩) (by simp[Value.oneCell']) Zo Zo (by have:=HS7.out.fr.size; simpa using this) ?_;intro v3 w7 hO3 hK3 hat3;have hS8:=HS7.out.push (l2:=oneT kk tt kids) hO3 hK3;obtain⟨_,r1,_,_,_⟩:=row5 (hS8.fr.at 0 (b:=w.heap.size) rfl rfl);obtain⟨_,f1,_,_,_⟩:=frz5 (hS8.fr.at 0 (b:=w.heap.size) rfl rfl);have HS8:=Zh hS8;clear hO3 hK3 hat3 hS8))
            have HJ2:=Zh hJ2;have HJ3:=Zh hJ3;have HSF:=Zh ((HS8.out.setI J2).setI J3);go_roundw
            case rel=>
             have hb2:=HB2.out;rcases HCASE.out with⟨k2,e1,e2,e3,h4,h5,h6,h7⟩ | ⟨A,C,e1,e2,h3,h4⟩
             ·have hj3:J3=(k2:Int):=by
               have h40:=HL.out.len;rw[<-HJ3.out,<-HJ2.out,e1,IntWalk.i64_in ((k2:Int) - 1) Zo,Int.sub_add_cancel,IntWalk.i64_in _ Zo]
              have hf:=HSF.out;rw[e2,e3] at hf;exact Yfi.good hf hj3 hi0i h4 h5 hn h6 HR1.out hb2 h7
             ·refine⟨_,_,_,_,HSF.out,?_,.inr ⟨A,C,e1,e2,h3,h4⟩⟩;rw[Ts.nodes_app];have h5:=HNK.out;have h6:(L.length - i)*40001+i*40001=L.length*40001:=by rw[<-Nat.add_mul,Nat.sub_add_cancel Zo]
              have h7:(L.length+1)*40001=L.length*40001+40001:=by rw[Nat.add_mul]
              simp only[oneT,Ts.nodes];omega
            case measure=>
             have e1:=HSF.out.m;have e2:=HM.out;rw[e1,e2];rcases HCASE.out with⟨k2,e3,e4,e5,h4,h5,_⟩ | ⟨A,C,e3,e4,h3,h4⟩
             ·have hj3:J3=(k2:Int):=by
               have h40:=HL.out.len;rw[<-HJ3.out,<-HJ2.out,e3,IntWalk.i64_in ((k2:Int) - 1) Zo,Int.sub_add_cancel,IntWalk.i64_in _ Zo]
              rw[if_pos e5,hj3];first | rw[if_pos rfl] | rw[if_pos trivial]
              omega
             ·rw[if_neg (by rw[e4]; exact h3)];first | rw[if_pos rfl] | rw[if_pos trivial]
              omega
          ·by_cases hl:text=JL
           ·have ht:text=⟨#[60]⟩:=hl;clear ho hl;subst ht;have hn1:isX L (.ok () i:Rd Unit) 6 Ya5=false:=by
             show isN L i 6 Ya5=false;unfold isN; rw[HX.out]; rfl
            have hn2:isX L (.ok () i:Rd Unit) 6 JL=true:=by
             show isN L i 6 JL=true;unfold isN; rw[HX.out]; rfl
            have hI2:=fun W hb=>HIs.out W hb JL rfl;rw[hn2] at hI2;have HI2:=Zh hI2;unfold rV at HI2;clear hI2 hn2;have HO:=Zh (Ybd (en:=en) (pat:=!calls) (n:=n) (deep:=deep) (acc:=acc) HX.out rfl (.inr rfl));have hds:decide ((⟨#[60]⟩:ByteArray)=JL)=true:=Zd;have HDS:=Zh hds;clear hds;have hlt0:w.heap.size<wr.heap.size:=hS.fr.lt (k:=0) Zs;have hI1:=HIs.out (wr.alloc (.cells #[.int .i64 6,.string ⟨#[60]⟩,.int .i64 at_] 163)) ((hS.next (below_alloc1 wr (.cells #[.int .i64 6,.string ⟨#[60]⟩,.int .i64 at_] 163))).fr.below) Ya5 rfl;rw[hn1] at hI1;have HS1:=Zh (hS.next (below_alloc1 wr (.cells #[.int .i64 6,.string ⟨#[60]⟩,.int .i64 at_] 163)));have HS0:=Zh hS;unfold rV at hI1;clear hS hn1;go_wp2_with fail;refine hI1.mono ?_;clear hI1;rintro e w2 ⟨rfl,hb2⟩;have HS2:=Zh (HS1.out.next hb2);have hx2:=(hb2.block wr.heap.size Zs).trans (heap_alloc_new wr (.cells #[.int .i64 6,.string ⟨#[60]⟩,.int .i64 at_] 163));obtain⟨x0,x1,x2⟩:=row3 hx2;have HK2:=Zh ((Keep.of_alloc (S:=fun k=>k=w.heap.size) wr (.cells #[.int .i64 6,.string ⟨#[60]⟩,.int .i64 at_] 163)).trans (Keep.of_below (S:=fun k=>k=w.heap.size) hb2) (fun _ _ q=>q));have HX2:=Zh hx2;clear hb2 hx2;obtain⟨r0,r1,r2,r3,r4⟩:=row5 (HS2.out.fr.at 0 (b:=w.heap.size) rfl rfl);go_wp2_with fail;refine(HI2.out w2 HS2.out.fr.below).mono ?_;clear HI2 x0 x1 x2;rintro e w9 ⟨rfl,hb9⟩;have HS9:=Zh (HS2.out.next hb9);obtain⟨x0,x1,x2⟩:=row3 ((hb9.block wr.heap.size (Zg HX2.out).1).trans HX2.out);have HK9:=Zh (HK2.out.trans (Keep.of_below (S:=fun k=>k=w.heap.size) hb9) (fun _ _ q=>q));clear hb9 HS2 HK2 HX2 r0 r1 r2 r3 r4;have HS2:=HS9;have HK2:=HK9;clear HS9 HK9;obtain⟨r0,r1,r2,r3,r4⟩:=row5 (HS2.out.fr.at 0 (b:=w.heap.size) rfl rfl);cases calls with
            |
             false=>
             have hFl:=Yc4 (β:=Ts) (w:=w9) HL.out (YaZ (ao:=some ⟨g,off,none⟩) (cap:=cap) (en:=en) (α:=Unit) () hil) (HTK.out.below HS2.out.fr.below) 52 Zd;have HE:Hid (R=YeZ L en i 52):=Zh (by rw[<-HR1.out,HO.out,show Jd L en (!false) n _ deep i=YQ L en i 52 from by unfold Jd; rw[HDS.out,Bool.true_and,if_pos (show(!false)=true from rfl)],Yde _ _ _ _ Zd]; rfl);unfold rV at hFl;go_wp2_with fail;refine hFl.mono ?_;clear hFl;rintro e w3 ⟨⟨r',rfl,hX⟩,hb3⟩;obtain⟨j,a,c,rfl,hst⟩:=hX;have HST:=Zh hst;have HS:=Zh (HS2.out.next hb3);clear hb3 hst r0 r1 r2 r3 r4;obtain⟨s0,s1,s2,s3,s4⟩:=row5 (HS.out.fr.at 1 (b:=w.heap.size+1) rfl rfl);obtain⟨f0,f1,f2,f3,f4⟩:=frz5 (HS.out.fr.at 1 (b:=w.heap.size+1) rfl rfl);unfold rV;go_wp2;have n:=Yx w3 (w.heap.size+1) _ _ _ _ _ (.slice (some ⟨g,off,none⟩) L.length cap) (.int .i64 j) (.int .i64 en) (.int .i64 a) (.int .i64 c) (HS.out.fr.at 1 rfl rfl);have k:=Yw w3 (w.heap.size+1) (.slice (some ⟨g,off,none⟩) L.length cap) (.int .i64 j) (.int .i64 en) (.int .i64 a) (.int .i64 c);refine bodyPost_ret (Ya rfl _ _ (w.heap.size+1) 85 _ (0,0) _ (.slice none 0 0) rfl rfl n Tryz.underlying85 rfl Yy) rfl (HP.out _ _ .nil _ (HS.out.fr.below.trans (k.below HS.out.fr.below.size (fun i hi q=>by omega))) ?_ (TsV.nil _ _) ?_ (by simp[Ts.nodes]))
             ·rw[HE.out]; exact⟨_,_,_,rfl,HST.out⟩
             ·intro x j q; rw[HE.out] at q; cases q
            |
             true=>
             by_cases hd:100<=deep
             ·have g1:decide ((100:Int)<=(deep:Int))=true:=Zt;have g2:decide (100<=deep)=true:=decide_eq_true hd;have hFl:=Yc4 (β:=Ts) (w:=w9) HL.out (YaZ (ao:=some ⟨g,off,none⟩) (cap:=cap) (en:=en) (α:=Unit) () hil) (HTK.out.below HS2.out.fr.below) 54 Zd;have HE:Hid (R=YeZ L en i 54):=Zh (by rw[<-HR1.out,HO.out,show Jd L en (!true) n _ deep i=YQ L en i 54 from by unfold Jd; rw[HDS.out,Bool.true_and,if_neg Zd,if_pos hd],Yde _ _ _ _ Zd]; rfl);unfold rV at hFl;go_wp2_with fail;refine hFl.mono ?_;clear hFl;rintro e w3 ⟨⟨r',rfl,hX⟩,hb3⟩;obtain⟨j,a,c,rfl,hst⟩:=hX;have HST:=Zh hst;have HS:=Zh (HS2.out.next hb3);clear hb3 hst r0 r1 r2 r3 r4;obtain⟨s0,s1,s2,s3,s4⟩:=row5 (HS.out.fr.at 1 (b:=w.heap.size+1) rfl rfl);obtain⟨f0,f1,f2,f3,f4⟩:=frz5 (HS.out.fr.at 1 (b:=w.heap.size+1) rfl rfl);unfold rV;go_wp2;have n:=Yx w3 (w.heap.size+1) _ _ _ _ _ (.slice (some ⟨g,off,none⟩) L.length cap) (.int .i64 j) (.int .i64 en) (.int .i64 a) (.int .i64 c) (HS.out.fr.at 1 rfl rfl);have k:=Yw w3 (w.heap.size+1) (.slice (some ⟨g,off,none⟩) L.length cap) (.int .i64 j) (.int .i64 en) (.int .i64 a) (.int .i64 c);refine bodyPost_ret (Ya rfl _ _ (w.heap.size+1) 85 _ (0,0) _ (.slice none 0 0) rfl rfl n Tryz.underlying85 rfl Yy) rfl (HP.out _ _ .nil _ (HS.out.fr.below.trans (k.below HS.out.fr.below.size (fun i hi q=>by omega))) ?_ (TsV.nil _ _) ?_ (by simp[Ts.nodes]))
              ·rw[HE.out]; exact⟨_,_,_,rfl,HST.out⟩
              ·intro x j q; rw[HE.out] at q; cases q
             ·have g1:decide (
               (100:Int)<=(deep:Int))=false:=Zf
              have g2:decide (100<=deep)=false:=decide_eq_false hd;have hBr:=HI.out n i (w9.alloc (.cells #[.int .i64 0,.string ⟨#[]⟩,.slice none 0 0] 223)) hi0i hi hn Zo (HTK.out.below (HS2.out.next (below_alloc1 w9 (.cells #[.int .i64 0,.string ⟨#[]⟩,.slice none 0 0] 223))).fr.below);have HS3:=Zh (HS2.out.next (below_alloc1 w9 (.cells #[.int .i64 0,.string ⟨#[]⟩,.slice none 0 0] 223)));have hlt2:w.heap.size<w9.heap.size:=HS2.out.fr.lt (k:=0) Zs;unfold rV at hBr;go_wp2_with fail;refine hBr.mono ?_;clear hBr x0 x1 x2;rintro e w3 ⟨hb3,r',kk,tt,v,kids,rfl,hX,hv,hkk,hnk⟩;obtain⟨j,a,c,rfl,hst⟩:=hX;have HCASE:=Zh (Yi3 HL.out.small hi HX.out rfl (.inr rfl) (by dsimp only; rw[HDS.out]; rfl) hd HR1.out hst hkk);obtain⟨aov,capv,rfl⟩:=hv.form;have HNK:=Zh hnk;have HS4:=Zh (HS3.out.next hb3);have hN:=(hb3.block w9.heap.size Zs).trans (heap_alloc_new w9 (.cells #[.int .i64 0,.string ⟨#[]⟩,.slice none 0 0] 223));have HN:=Zh hN;have HV:=Zh hv;have HK4:=Zh ((HK2.out.trans (Keep.of_alloc (S:=fun k=>k=w.heap.size) w9 (.cells #[.int .i64 0,.string ⟨#[]⟩,.slice none 0 0] 223)) (fun _ _ q=>q)).trans (Keep.of_below (S:=fun k=>k=w.heap.size) hb3) (fun _ _ q=>q));have HZ3:=Zh hb3.size;obtain⟨J2,hJ2⟩:∃x,IntKind.i64.wrap (j - 1)=x:=⟨_,rfl⟩;obtain⟨J3,hJ3⟩:∃x,IntKind.i64.wrap (J2+1)=x:=⟨_,rfl⟩;clear hst hkk hnk hb3 hN hv r0 r1 r2 r3 r4;unfold rV;go_wp2_with (
               first
               |(
                 refine wpList_store_row rfl 85 (.tmp 3) (.tmp 107) rfl w.heap.size #[.slice (some ⟨g,off,none⟩) L.length cap,.int .i64 j,.int .i64 en,.int .i64 a,.int .i64 c] rfl rfl 85 _ (HS4.out.fr.at 0 rfl rfl) Yy rfl (YR _ _ _ _ _ _ _ _) ?_;have HS5:=Zh (HS4.out.setR j a c);have HK5:=Zh (HK4.out.trans (Keep.of_setRow w3 w.heap.size #[.slice (some ⟨g,off,none⟩) L.length cap,.int .i64 j,.int .i64 en,.int .i64 a,.int .i64 c]) (fun _ _ q=>q));have HN5:=Zh (((Keep.of_setRow w3 w.heap.size #[.slice (some ⟨g,off,none⟩) L.length cap,.int .i64 j,.int .i64 en,.int .i64 a,.int .i64 c]).block w9.heap.size (Zg HN.out).1 Zo).trans HN.out);have HV5:=Zh (HV.out.keep (T:=fun k=>w9.heap.size+1<=k) (fun k q hk=>(Keep.of_setRow w3 w.heap.size #[.slice (some ⟨g,off,none⟩) L.length cap,.int .i64 j,.int .i64 en,.int .i64 a,.int .i64 c]).block k hk (by have q2:(w9.alloc (.cells #[.int .i64 0,.string ⟨#[]⟩,.slice none 0 0] 223)).heap.size<=k:=q; simp at q2; omega)) (fun k q _=>by have q2:(w9.alloc (.cells #[.int .i64 0,.string ⟨#[]⟩,.slice none 0 0] 223)).heap.size<=k:=q; simpa using q2));generalize World.setRow w3 w.heap.size #[.slice (some ⟨g,off,none⟩) L.length cap,.int .i64 j,.int .i64 en,.int .i64 a,.int .i64 c]=w4 at HS5 HK5 HN5 HV5⊢)
               |(
                 refine wpList_store_row rfl 223 (.tmp 12) (.tmp 108) rfl w9.heap.size #[.int .i64 kk,.string tt,.slice aov kids.len capv] rfl rfl 223 _ HN5.out Ybe rfl (YlH _ _ _ _ _ _) ?_;have HN6:=Zh (setRow_heap w4 w9.heap.size _ #[.int .i64 kk,.string tt,.slice aov kids.len capv] _ _ HN5.out);have KR:=Keep.of_setRow w4 w9.heap.size #[.int .i64 kk,.string tt,.slice aov kids.len capv];have HK6:=Zh (HK5.out.trans KR (fun k hk q=>by have q:k=w9.heap.size:=q; have:=HK2.out.size; omega));have HF6:=Zh (HS5.out.fr.keep KR (fun k q=>by have q:k=w9.heap.size:=q; have q3:w.heap.size+2<=w9.heap.size:=HS2.out.fr.size; show w.heap.size+2<=k; omega));have HV6:=Zh (HV5.out.keep (T:=fun k=>w9.heap.size+1<=k) (fun k q hk=>KR.block k hk (by have q:w9.heap.size+1<=k:=q; show ¬k=w9.heap.size; omega)) (fun k q _=>q));clear KR;generalize World.setRow w4 w9.heap.size #[.int .i64 kk,.string tt,.slice aov kids.len capv]=w5 at HN6 HK6 HF6 HV6⊢;have HS6:Hid (RtS (some ⟨g,off,none⟩) cap L en w w5 u8 acc j a c):=Zh ⟨HF6.out,HS0.out.own.keep (Yd _) HK6.out (fun k q=>by have q:k=w.heap.size:=q; omega)⟩;have HS7:=Zh (HS6.out.next (below_alloc1 w5 (.cells #[.int .i64 kk,.string tt,.slice aov kids.len capv] 223)));have HNW:=Zh (YbW w5 (.int .i64 kk) (.string tt) (.slice aov kids.len capv) 223);have HV7:=Zh (HV6.out.below (T:=fun k=>w.heap.size+2<=k/\u8.ownBlock≠some k) (below_alloc1 w5 (.cells #[.int .i64 kk,.string tt,.slice aov kids.len capv] 223)) (fun k q _=>by
                  have h1:=HK2.out.size;have h2:w.heap.size+2<=wr.heap.size:=HS0.out.fr.size;refine⟨by omega,fun e1=>?_⟩;have:=(HS0.out.own.own_lt k e1).2;omega))
                 obtain⟨t0,t1,t2⟩:=row3 HN6.out)
               |(
                 at_builtin;refine Yn rfl _ _ 35 rfl (w.heap.size+2) 223 3 48 J4 _ _ rfl HS7.out.own (Yd _) (Yd (oneT kk tt kids)) (J1 _ _) (some ⟨w5.heap.size,0,none⟩) 1 1 [.int .i64 kk,.string tt,.slice aov kids.len capv] rfl (Ts.flat_single _ _ HV7.out) rfl (fun _=>⟨_,0,rfl,HNW.out⟩) (by simp[Value.oneCell']) Zo Zo (by have:=HS7.out.fr.size; simpa using this) ?_;intro v3 w7 hO3 hK3 hat3;have hS8:=HS7.out.push (l2:=oneT kk tt kids) hO3 hK3;obtain⟨_,r1,_,_,_⟩:=row5 (hS8.fr.at 0 (b:=w.heap.size) rfl rfl);obtain⟨_,f1,_,_,_⟩:=frz5 (hS8.fr.at 0 (b:=w.heap.size) rfl rfl);have HS8:=Zh hS8;clear hO3 hK3 hat3 hS8))
              have HJ2:=Zh hJ2;have HJ3:=Zh hJ3;have HSF:=Zh ((HS8.out.setI J2).setI J3);go_roundw
              case rel=>
               have hb2:=HB2.out;rcases HCASE.out with⟨k2,e1,e2,e3,h4,h5,h6,h7⟩ | ⟨A,C,e1,e2,h3,h4⟩
               ·have hj3:J3=(k2:Int):=by
                 have h40:=HL.out.len;rw[<-HJ3.out,<-HJ2.out,e1,IntWalk.i64_in ((k2:Int) - 1) Zo,Int.sub_add_cancel,IntWalk.i64_in _ Zo]
                have hf:=HSF.out;rw[e2,e3] at hf;exact Yfi.good hf hj3 hi0i h4 h5 hn h6 HR1.out hb2 h7
               ·refine⟨_,_,_,_,HSF.out,?_,.inr ⟨A,C,e1,e2,h3,h4⟩⟩;rw[Ts.nodes_app];have h5:=HNK.out;have h6:(L.length - i)*40001+i*40001=L.length*40001:=by rw[<-Nat.add_mul,Nat.sub_add_cancel Zo]
                have h7:(L.length+1)*40001=L.length*40001+40001:=by rw[Nat.add_mul]
                simp only[oneT,Ts.nodes];omega
              case measure=>
               have e1:=HSF.out.m;have e2:=HM.out;rw[e1,e2];rcases HCASE.out with⟨k2,e3,e4,e5,h4,h5,_⟩ | ⟨A,C,e3,e4,h3,h4⟩
               ·have hj3:J3=(k2:Int):=by
                 have h40:=HL.out.len;rw[<-HJ3.out,<-HJ2.out,e3,IntWalk.i64_in ((k2:Int) - 1) Zo,Int.sub_add_cancel,IntWalk.i64_in _ Zo]
                rw[if_pos e5,hj3];first | rw[if_pos rfl] | rw[if_pos trivial]
                omega
               ·rw[if_neg (by rw[e4]; exact h3)];first | rw[if_pos rfl] | rw[if_pos trivial]
                omega
           ·have hn1:isX L (.ok () i:Rd Unit) 6 Ya5=false:=by
             show isN L i 6 Ya5=false;unfold isN; rw[HX.out]; dsimp only; rw[decide_eq_false ho,Bool.and_false]
            have hn2:isX L (.ok () i:Rd Unit) 6 JL=false:=by
             show isN L i 6 JL=false;unfold isN; rw[HX.out]; dsimp only; rw[decide_eq_false hl,Bool.and_false]
            have HE:Hid (R= .ok acc i):=Zh (by rw[<-HR1.out]; exact Ycl HX.out (show ¬(6:Int)=1 by decide) (show ¬((6:Int)=2\/(6:Int)=3) by decide) (show ¬(6:Int)=4 by decide) (show ¬(6:Int)=5 by decide) (fun _=>⟨ho,hl⟩));clear ho hl;have hlt0:w.heap.size<wr.heap.size:=hS.fr.lt (k:=0) Zs;have hI1:=HIs.out (wr.alloc (.cells #[.int .i64 6,.string text,.int .i64 at_] 163)) ((hS.next (below_alloc1 wr (.cells #[.int .i64 6,.string text,.int .i64 at_] 163))).fr.below) Ya5 rfl;rw[hn1] at hI1;have hI2:=fun W hb=>HIs.out W hb JL rfl;rw[hn2] at hI2;have HI2:=Zh hI2;have HS1:=Zh (hS.next (below_alloc1 wr (.cells #[.int .i64 6,.string text,.int .i64 at_] 163)));unfold rV at hI1 HI2;clear hS hn1 hn2 hI2;go_wp2_with fail;refine hI1.mono ?_;clear hI1;rintro e w2 ⟨rfl,hb2⟩;have HS2:=Zh (HS1.out.next hb2);clear hb2;obtain⟨r0,r1,r2,r3,r4⟩:=row5 (HS2.out.fr.at 0 (b:=w.heap.size) rfl rfl);go_wp2_with fail;refine(HI2.out w2 HS2.out.fr.below).mono ?_;clear HI2;rintro e w3 ⟨rfl,hb3⟩;have HS:=Zh (HS2.out.next hb3);clear hb3;obtain⟨r0,r1,r2,r3,r4⟩:=row5 (HS.out.fr.at 0 (b:=w.heap.size) rfl rfl);obtain⟨s0,s1,s2,s3,s4⟩:=row5 (HS.out.fr.at 1 (b:=w.heap.size+1) rfl rfl);obtain⟨f0,f1,f2,f3,f4⟩:=frz5 (HS.out.fr.at 1 (b:=w.heap.size+1) rfl rfl);go_wp2;obtain⟨q1,q2,q3⟩:=HS.out.ret;refine bodyPost_ret (Ya rfl _ _ (w.heap.size+1) 85 _ (0,0) _ u8 rfl rfl q1 Tryz.underlying85 rfl Yy) rfl (HP.out _ _ acc _ q2 ?_ q3 ?_ (by have:=HB.out; rw[Nat.sub_mul]; omega))
            ·rw[HE.out]; exact⟨_,_,_,rfl,rfl,rfl,rfl,hil⟩
            ·intro x j q; rw[HE.out] at q; cases q; rfl
         ·have hn1:isX L (.ok () i:Rd Unit) 6 Ya5=false:=by
           show isN L i 6 Ya5=false;unfold isN; rw[HX.out]; dsimp only; rw[show(kind==6)=false by simpa using k6,Bool.false_and]
          have hn2:isX L (.ok () i:Rd Unit) 6 JL=false:=by
           show isN L i 6 JL=false;unfold isN; rw[HX.out]; dsimp only; rw[show(kind==6)=false by simpa using k6,Bool.false_and]
          have HE:Hid (R= .ok acc i):=Zh (by rw[<-HR1.out]; exact Ycl HX.out k1 (fun q=>q.elim k2 k3) k4 k5 (fun q=>absurd q k6));have b1:(kind==1)=false:=by simpa using k1
          have b2:(kind==2)=false:=by simpa using k2
          have b3:(kind==3)=false:=by simpa using k3
          have b4:(kind==4)=false:=by simpa using k4
          have b5:(kind==5)=false:=by simpa using k5
          clear k1 k2 k3 k4 k5 k6;have hlt0:w.heap.size<wr.heap.size:=hS.fr.lt (k:=0) Zs;have hI1:=HIs.out (wr.alloc (.cells #[.int .i64 kind,.string text,.int .i64 at_] 163)) ((hS.next (below_alloc1 wr (.cells #[.int .i64 kind,.string text,.int .i64 at_] 163))).fr.below) Ya5 rfl;rw[hn1] at hI1;have hI2:=fun W hb=>HIs.out W hb JL rfl;rw[hn2] at hI2;have HI2:=Zh hI2;have HS1:=Zh (hS.next (below_alloc1 wr (.cells #[.int .i64 kind,.string text,.int .i64 at_] 163)));unfold rV at hI1 HI2;clear hS hn1 hn2 hI2;go_wp2_with fail;refine hI1.mono ?_;clear hI1;rintro e w2 ⟨rfl,hb2⟩;have HS2:=Zh (HS1.out.next hb2);clear hb2;obtain⟨r0,r1,r2,r3,r4⟩:=row5 (HS2.out.fr.at 0 (b:=w.heap.size) rfl rfl);go_wp2_with fail;refine(HI2.out w2 HS2.out.fr.below).mono ?_;clear HI2;rintro e w3 ⟨rfl,hb3⟩;have HS:=Zh (HS2.out.next hb3);clear hb3;obtain⟨r0,r1,r2,r3,r4⟩:=row5 (HS.out.fr.at 0 (b:=w.heap.size) rfl rfl);obtain⟨s0,s1,s2,s3,s4⟩:=row5 (HS.out.fr.at 1 (b:=w.heap.size+1) rfl rfl);obtain⟨f0,f1,f2,f3,f4⟩:=frz5 (HS.out.fr.at 1 (b:=w.heap.size+1) rfl rfl);go_wp2;obtain⟨q1,q2,q3⟩:=HS.out.ret;refine bodyPost_ret (Ya rfl _ _ (w.heap.size+1) 85 _ (0,0) _ u8 rfl rfl q1 Tryz.underlying85 rfl Yy) rfl (HP.out _ _ acc _ q2 ?_ q3 ?_ (by have:=HB.out; rw[Nat.sub_mul]; omega))
          ·rw[HE.out]; exact⟨_,_,_,rfl,rfl,rfl,rfl,hil⟩
          ·intro x j q; rw[HE.out] at q; cases q; rfl
   ·have l0:decide ((i:Int)<(L.length:Int))=false:=Zf;have l1:decide (i<L.length)=false:=decide_eq_false hi;have HE:Hid (R= .ok acc i):=Zh (by rw[<-hE]; exact YgS (List.getElem?_eq_none Zo));obtain⟨s0,s1,s2,s3,s4⟩:=row5 (hS.fr.at 1 (b:=w.heap.size+1) rfl rfl);obtain⟨f0,f1,f2,f3,f4⟩:=frz5 (hS.fr.at 1 (b:=w.heap.size+1) rfl rfl);have HS:=Zh hS;clear hS hE;go_wp2;obtain⟨q1,q2,q3⟩:=HS.out.ret;refine bodyPost_ret (Ya rfl _ _ (w.heap.size+1) 85 _ (0,0) _ u8 rfl rfl q1 Tryz.underlying85 rfl Yy) rfl (HP.out _ _ acc _ q2 ?_ q3 ?_ (by have:=HB.out; rw[Nat.sub_mul]; omega))
    ·rw[HE.out]; exact⟨_,_,_,rfl,rfl,rfl,rfl,hil⟩
    ·intro x j q; rw[HE.out] at q; cases q; rfl
  ·have HRb:=Zh hRb;have HB:=Zh hB;clear hB;obtain⟨r0,r1,r2,r3,r4⟩:=row5 (hS.fr.at 0 (b:=w.heap.size) rfl rfl);obtain⟨s0,s1,s2,s3,s4⟩:=row5 (hS.fr.at 1 (b:=w.heap.size+1) rfl rfl);obtain⟨f0,f1,f2,f3,f4⟩:=frz5 (hS.fr.at 1 (b:=w.heap.size+1) rfl rfl);have b0:(c==0)=false:=by simpa using hC
   have HS:=Zh hS;have HC:=Zh hC;clear hS hRb hC;go_wp2;obtain⟨q1,q2,q3⟩:=HS.out.ret;refine bodyPost_ret (Ya rfl _ _ (w.heap.size+1) 85 _ (0,0) _ u8 rfl rfl q1 Tryz.underlying85 rfl Yy) rfl (HP.out _ _ acc _ q2 ?_ q3 ?_ (by have:=HB.out; rw[Nat.sub_mul]; omega))
   ·rw[HRb.out]; exact⟨_,_,_,rfl,rfl,rfl,HC.out⟩
   ·intro x j q; rw[HRb.out] at q; cases q
theorem YfB (ao:Option Addr)(cap:Nat)(L:List Tk)(en:Nat)(calls:Bool)(d:Int)(i:Int)(A:Nat)(C:Int)(w:World)(hC:¬C=0):
 Calls Tryz.prog 140 #[rV ao cap L en i A C,.bool calls,.int .i64 d] w fun e w'=>Below w.heap.size w w'/\∃v,e= .returned (.tuple #[rV ao cap L en i A C,v])/\TsV w' (fun k=>w.heap.size<=k) v .nil:=by
 have hS0:RtS ao cap L en w (((w.alloc (.cells #[.slice ao L.length cap,.int .i64 i,.int .i64 en,.int .i64 A,.int .i64 C] 85)).alloc (.cells #[.slice none 0 0,.int .i64 0,.int .i64 0,.int .i64 0,.int .i64 0] 85)).alloc (.cells #[] 223)) (.slice (some ⟨w.heap.size+1+1,0,none⟩) 0 0) .nil i A C:=by
  have h2:Fr w ((w.alloc (.cells #[.slice ao L.length cap,.int .i64 i,.int .i64 en,.int .i64 A,.int .i64 C] 85)).alloc (.cells #[.slice none 0 0,.int .i64 0,.int .i64 0,.int .i64 0,.int .i64 0] 85)) [(#[.slice ao L.length cap,.int .i64 i,.int .i64 en,.int .i64 A,.int .i64 C],85),(#[.slice none 0 0,.int .i64 0,.int .i64 0,.int .i64 0,.int .i64 0],85)]:=((Fr.start w).alloc Zs _ _).alloc Zs _ _;refine⟨h2.next (below_alloc1 _ _),OwnR.empty ?_ (Nat.le_refl _) (fun _=>rfl)⟩;have:=heap_alloc_new ((w.alloc (.cells #[.slice ao L.length cap,.int .i64 i,.int .i64 en,.int .i64 A,.int .i64 C] 85)).alloc (.cells #[.slice none 0 0,.int .i64 0,.int .i64 0,.int .i64 0,.int .i64 0] 85)) (.cells #[] 223);simpa using this
 have HS0:=Zh hS0;have b0:(C==0)=false:=by simpa using hC
 clear hS0 hC;unfold rV;go_enter Tryz.func140,Tryz.ntmps140;go_wp2;go_loopw [8] (fun v wr=>RtS ao cap L en w wr v .nil i A C) (fun _ wr=>rtM w.heap.size L.length wr)
 case atStart=>exact HS0.out
 case round=>
  clear HS0;have hS:=hrel;obtain⟨r0,r1,r2,r3,r4⟩:=row5 (hS.fr.at 0 (b:=w.heap.size) rfl rfl);obtain⟨s0,s1,s2,s3,s4⟩:=row5 (hS.fr.at 1 (b:=w.heap.size+1) rfl rfl);obtain⟨f0,f1,f2,f3,f4⟩:=frz5 (hS.fr.at 1 (b:=w.heap.size+1) rfl rfl);have HS:=Zh hS;clear hS hrel;go_wp2;obtain⟨q1,q2,q3⟩:=HS.out.ret;exact bodyPost_ret (Ya rfl _ _ (w.heap.size+1) 85 _ (0,0) _ u8 rfl rfl q1 Tryz.underlying85 rfl Yy) rfl ⟨q2,_,rfl,q3⟩
theorem YgC.ok {ao:Option Addr}{cap:Nat}{L:List Tk}{en:Nat}{pat:Bool}{n d j:Nat}{α:Type}(x:α){w:World}{e:Ending}{w':World}(h:YgC ao cap L en pat n d (.ok () j:Rd Unit) w e w'):YgC ao cap L en pat n d (.ok x j:Rd α) w e w':=by
 obtain⟨hb,r',v,l,rfl,h1,h2,h3,h4,h5⟩:=h;exact⟨hb,r',v,l,rfl,h1,h2,h3,(fun y m q=>by cases q; exact h4 () _ rfl),fun A C q=>by cases q⟩
theorem Yjl (ao:Option Addr)(cap:Nat)(L:List Tk)(en:Nat)(pat:Bool)(hL:RL L):∀(m:Nat) {α:Type} (X:Rd α) (n d:Nat) (r:Value) (w:World),(∀x i,X= .ok x i->L.length - i<=m/\L.length - i<n)->d<=100->rSt ao cap L en X r->RTok ao L w->
 Calls Tryz.prog 140 #[r,.bool (!pat),.int .i64 d] w (YgC ao cap L en pat n d X w):=by
 intro m;induction m with
 |
  zero=>
  intro α X n d r w hm hd hX hT;obtain⟨i,a,c,rfl,h⟩:=hX;cases X with
  |
   bad A C=>
   obtain⟨rfl,rfl,hC⟩:=h;refine(YfB ao cap L en (!pat) d i A _ w hC).mono ?_;rintro e w' ⟨hb,v,rfl,hv⟩;exact⟨hb,_,v,.nil,rfl,Ya6 _ hC,hv,(fun x j q=>by cases q),(fun x m q=>by cases q),fun _ _ _=>rfl⟩
  |
   ok x j=>
   obtain⟨rfl,rfl,rfl,hj⟩:=h;have hm2:=hm x j rfl;exact(Yey ao cap L en pat d j n w hL hT hj hd hm2.2 (fun n' j' w' h1 h2 h3 _ _=>by omega)).mono (fun e w' h=>h.ok x)
 |
  succ m ih=>
  intro α X n d r w hm hd hX hT;obtain⟨i,a,c,rfl,h⟩:=hX;cases X with
  |
   bad A C=>
   obtain⟨rfl,rfl,hC⟩:=h;refine(YfB ao cap L en (!pat) d i A _ w hC).mono ?_;rintro e w' ⟨hb,v,rfl,hv⟩;exact⟨hb,_,v,.nil,rfl,Ya6 _ hC,hv,(fun x j q=>by cases q),(fun x m q=>by cases q),fun _ _ _=>rfl⟩
  |
   ok x j=>
   obtain⟨rfl,rfl,rfl,hj⟩:=h;have hm2:=hm x j rfl;refine(Yey ao cap L en pat d j n w hL hT hj hd hm2.2 (fun n' j' w' h1 h2 h3 h4 h5=>?_)).mono (fun e w' h=>h.ok x);have:=Yh0 ao cap L en pat n' (d+1) j' w' hL h5 h2 (fun X r W hX hW hXm=>ih X n' (d+1) r W (fun x i q=>by have:=hXm x i q; omega) Zo hX hW);exact this
theorem YkB (ao:Option Addr)(cap:Nat)(L:List Tk)(en:Nat)(pat:Bool)(hL:RL L){α:Type}(X:Rd α)(r:Value)(w:World)(hX:rSt ao cap L en X r)(hT:RTok ao L w):
 Calls Tryz.prog 140 #[r,.bool (!pat),.int .i64 0] w (YgC ao cap L en pat (L.length+1) 0 X w):=
 Yjl ao cap L en pat hL L.length X (L.length+1) 0 r w (fun x i _=>by omega) Zo hX hT
def Yis (ao:Option Addr)(cap:Nat)(L:List Tk)(en:Nat)(pat:Bool){α:Type}(X:Rd α)(w:World)(e:Ending)(w':World):Prop:=
 Below w.heap.size w w'/\∃r' v l,e= .returned (.tuple #[r',v])/\rSt ao cap L en (X.bind fun _ i=>YK L en pat i) r'/\TsV w' (fun k=>w.heap.size<=k) v l/\(∀x j,(X.bind fun _ i=>YK L en pat i)= .ok x j->l=x)
theorem YeX {w wr:World}{rs:List (Array Value×TypeId)}{t:TypeId}{s0 s1 s2 s3 s4:Value}(h:Fr w wr rs)(hk:rs[1]? =some (#[s0,s1,s2,s3,s4],t))(a b c d e:Value):
 (((((wr.setCell ⟨w.heap.size+1,0,none⟩ a).setCell ⟨w.heap.size+1,1,none⟩ b).setCell ⟨w.heap.size+1,2,none⟩ c).setCell ⟨w.heap.size+1,3,none⟩ d).setCell ⟨w.heap.size+1,4,none⟩ e).heap[w.heap.size+1]? =some (.cells #[a,b,c,d,e] t (0,0))/\
 Below w.heap.size w (((((wr.setCell ⟨w.heap.size+1,0,none⟩ a).setCell ⟨w.heap.size+1,1,none⟩ b).setCell ⟨w.heap.size+1,2,none⟩ c).setCell ⟨w.heap.size+1,3,none⟩ d).setCell ⟨w.heap.size+1,4,none⟩ e)/\
 Keep (fun k=>k=w.heap.size+1) wr (((((wr.setCell ⟨w.heap.size+1,0,none⟩ a).setCell ⟨w.heap.size+1,1,none⟩ b).setCell ⟨w.heap.size+1,2,none⟩ c).setCell ⟨w.heap.size+1,3,none⟩ d).setCell ⟨w.heap.size+1,4,none⟩ e):=by
 have n:=Yx wr (w.heap.size+1) _ _ _ _ _ a b c d e (h.at 1 rfl hk);have k:=Yw wr (w.heap.size+1) a b c d e;exact⟨n,h.below.trans (k.below h.below.size (fun i hi q=>by omega)),k⟩
theorem YnU {L:List Tk}{en:Nat}{pat:Bool}{α:Type}(X:Rd α):(X.bind fun _ i=>YK L en pat i)=(X.bind fun _ i=>Yb L en pat (L.length+1) 0 i .nil).bind fun l j=>if 4000<l.nodes then YQ L en j 5 else .ok l j:=by
 cases X<;>rfl
theorem fail5 {α:Type}{L:List Tk}{en j:Nat}:(YQ L en j 5:Rd α)= .bad (Y6 L en j) 5:=by unfold YQ; rw[if_pos (.inr rfl)]
theorem Yd6 (ao:Option Addr)(cap:Nat)(L:List Tk)(en:Nat)(pat:Bool)(hL:RL L){α:Type}(X:Rd α)(r:Value)(w:World)(hX:rSt ao cap L en X r)(hT:RTok ao L w):
 Calls Tryz.prog 104 #[r,.bool (!pat)] w (Yis ao cap L en pat X w):=by
 obtain⟨i,a,c,rfl,hst⟩:=hX;have hX:rSt ao cap L en X (rV ao cap L en i a c):=⟨i,a,c,rfl,hst⟩;have HX:=Zh hX;have HTK:=Zh hT;have HL:=Zh hL;clear hst hX hT hL;obtain⟨W0,hW0⟩:∃W0,W0=(w.alloc (.cells #[.slice ao L.length cap,.int .i64 i,.int .i64 en,.int .i64 a,.int .i64 c] 85)).alloc (.cells #[.slice none 0 0,.int .i64 0,.int .i64 0,.int .i64 0,.int .i64 0] 85):=⟨_,rfl⟩;have hF:Fr w W0 [(#[.slice ao L.length cap,.int .i64 i,.int .i64 en,.int .i64 a,.int .i64 c],85),(#[.slice none 0 0,.int .i64 0,.int .i64 0,.int .i64 0,.int .i64 0],85)]:=by
  rw[hW0];exact((Fr.start w).alloc Zs _ _).alloc Zs _ _
 have hTm:=YkB ao cap L en pat HL.out X _ W0 HX.out (HTK.out.below hF.below);generalize hc:(!pat)=calls at hTm⊢;unfold rV at hTm;have HP:Hid (∀r' v l w',Below w.heap.size w w'->rSt ao cap L en (X.bind fun _ i=>YK L en pat i) r'->TsV w' (fun k=>w.heap.size<=k) v l->(∀x j,(X.bind fun _ i=>YK L en pat i)= .ok x j->l=x)->Yis ao cap L en pat X w (.returned (.tuple #[r',v])) w'):=Zh (fun r' v l w' h1 h2 h3 h4=>⟨h1,r',v,l,rfl,h2,h3,h4⟩);rw[YnU] at HP;have HNB:Hid (∀l:Ts,(∀x m,X= .ok x m->l.nodes<=(L.length+1 - m)*40001)->(∀A C,X= .bad A C->l= .nil)->l.nodes<=1000000000000):=Zh (fun l h1 h2=>by
  cases X with
  |bad A C=>rw[h2 A C rfl]; simp[Ts.nodes]
  |
   ok x m=>
   refine Nat.le_trans (h1 x m rfl) (Nat.le_trans (Nat.mul_le_mul_right 40001 (show L.length+1 - m<=40001 by have:=HL.out.len; omega)) Zd))
 generalize Yis ao cap L en pat X w=POST at HP⊢;unfold rV;clear hc;go_enter Tryz.func104,Tryz.ntmps104;go_wp2_with fail;rw[<-hW0];clear hW0;refine hTm.mono ?_;clear hTm;rintro e w1 ⟨hb1,r',v,l,rfl,hX1,hv,hl,hn1,hn2⟩;obtain⟨j,a1,c1,rfl,hst⟩:=hX1;have hnb:=HNB.out l hn1 hn2;obtain⟨aov,capv,rfl⟩:=hv.form;have HV:=Zh hv;have HF1:=Zh (hF.next hb1);have HB0:Hid (w.heap.size+2<=W0.heap.size):=Zh hF.size;have HLL:=Zh hl;generalize(X.bind fun _ i=>Yb L en pat (L.length+1) 0 i .nil)=X1 at hst HLL HP;clear hn1 hn2 hv hb1 hF HNB hl HX;unfold rV;go_wp2_with (
  first
  |(
    refine wpList_store_row rfl 85 (.tmp 2) (.tmp 13) rfl w.heap.size #[.slice ao L.length cap,.int .i64 j,.int .i64 en,.int .i64 a1,.int .i64 c1] rfl rfl 85 _ (HF1.out.at 0 rfl rfl) Yy rfl (YR _ _ _ _ _ _ _ _) ?_;have HF2:=Zh (HF1.out.setRowAt 0 rfl #[.slice ao L.length cap,.int .i64 j,.int .i64 en,.int .i64 a1,.int .i64 c1] rfl);have HV2:=Zh (HV.out.keep (T:=fun k=>W0.heap.size<=k) (fun k q hk=>(Keep.of_setRow w1 w.heap.size #[.slice ao L.length cap,.int .i64 j,.int .i64 en,.int .i64 a1,.int .i64 c1]).block k hk (by have q:W0.heap.size<=k:=q; have:=HB0.out; show ¬k=w.heap.size; omega)) (fun k q _=>q));generalize World.setRow w1 w.heap.size #[.slice ao L.length cap,.int .i64 j,.int .i64 en,.int .i64 a1,.int .i64 c1]=w2 at HF2 HV2⊢))
 have hSz:=YkO _ (l.nodes+1) l _ w2 Zo HV2.out hnb;refine hSz.mono ?_;clear hSz;rintro e w3 ⟨rfl,rfl⟩;obtain⟨r0,r1,r2,r3,r4⟩:=row5 (HF2.out.at 0 (b:=w.heap.size) rfl rfl);obtain⟨f0,f1,f2,f3,f4⟩:=frz5 (HF2.out.at 0 (b:=w.heap.size) rfl rfl);obtain⟨s0,s1,s2,s3,s4⟩:=row5 (HF2.out.at 1 (b:=w.heap.size+1) rfl rfl);obtain⟨g0,g1,g2,g3,g4⟩:=frz5 (HF2.out.at 1 (b:=w.heap.size+1) rfl rfl);cases X1 with
 |
  bad A C=>
  obtain⟨rfl,rfl,hC⟩:=hst;have b0:(c1==0)=false:=by simpa using hC
  have HC:=Zh hC;clear hC;go_wp2;obtain⟨q1,q2,q3⟩:=YeX HF2.out rfl (.slice ao L.length cap) (.int .i64 j) (.int .i64 en) (.int .i64 A) (.int .i64 c1);exact bodyPost_ret (Ya rfl _ _ (w.heap.size+1) 85 _ (0,0) _ (.slice aov l.len capv) rfl rfl q1 Tryz.underlying85 rfl Yy) rfl (HP.out _ _ l _ q2 (Ya6 j HC.out) (HV2.out.keep (fun k q hk=>q3.block k hk (by have q:W0.heap.size<=k:=q; have:=HB0.out; show ¬k=w.heap.size+1; omega)) (fun k q _=>by have q:W0.heap.size<=k:=q; have:=HB0.out; omega)) (fun x j q=>by cases q))
 |
  ok l2 j2=>
  obtain rfl:=HLL.out l2 j2 rfl;obtain⟨rfl,rfl,rfl,hj⟩:=hst;by_cases hbig:4000<l.nodes
  ·have b1:decide ((4000:Int)<(l.nodes:Int))=true:=Zt;have b2:decide (4000<l.nodes)=true:=decide_eq_true hbig;have HE:Hid (((Rd.ok l j2).bind fun l j=>if 4000<l.nodes then YQ L en j 5 else .ok l j)= .bad (Y6 L en j2) 5):=Zh (by show(if 4000<l.nodes then YQ L en j2 5 else .ok l j2)=_; rw[if_pos hbig,fail5]);clear hbig;by_cases hlt:j2<L.length
   ·have l0:decide ((L.length:Int)<=(j2:Int))=false:=Zf;have l1:decide (L.length<=j2)=false:=Zf;have hFl:=YaS ao cap L en j2 5 w3 (HTK.out.below HF2.out.below) hj HL.out.len;rw[if_pos hlt] at hFl;have HH:Hid (Y6 L en j2=Y6 L en j2):=Zh rfl;generalize Y6 L en j2=H at hFl HE;unfold rV at hFl;clear HH;go_wp2_with fail;refine hFl.mono ?_;clear hFl r0 r1 r2 r3 r4 f0 f1 f2 f3 f4 s0 s1 s2 s3 s4 g0 g1 g2 g3 g4;rintro e w4 ⟨rfl,hb4⟩;have HF4:=Zh (HF2.out.next hb4);obtain⟨s0,s1,s2,s3,s4⟩:=row5 (HF4.out.at 1 (b:=w.heap.size+1) rfl rfl);obtain⟨g0,g1,g2,g3,g4⟩:=frz5 (HF4.out.at 1 (b:=w.heap.size+1) rfl rfl);clear hb4;go_wp2;obtain⟨q1,q2,q3⟩:=YeX HF4.out rfl (.slice ao L.length cap) (.int .i64 j2) (.int .i64 en) (.int .i64 H) (.int .i64 5);refine bodyPost_ret (Ya rfl _ _ (w.heap.size+1) 85 _ (0,0) _ (.slice none 0 0) rfl rfl q1 Tryz.underlying85 rfl Yy) rfl (HP.out _ _ .nil _ q2 ?_ (TsV.nil _ _) ?_)
    ·rw[HE.out]; exact Ya6 _ Zd
    ·intro x j q; rw[HE.out] at q; cases q
   ·have l0:decide ((L.length:Int)<=(j2:Int))=true:=Zt;have l1:decide (L.length<=j2)=true:=Zt;have HH:Hid (Y6 L en j2=en):=Zh (by unfold Y6; rw[List.getElem?_eq_none Zo]);go_wp2;have HF5:=(HF2.out.setCellAt 0 (b:=w.heap.size) rfl 3 (.int .i64 en) rfl).setCellAt 0 (b:=w.heap.size) rfl 4 (.int .i64 5) rfl;obtain⟨q1,q2,q3⟩:=YeX HF5 rfl (.slice ao L.length cap) (.int .i64 j2) (.int .i64 en) (.int .i64 en) (.int .i64 5);refine bodyPost_ret (Ya rfl _ _ (w.heap.size+1) 85 _ (0,0) _ (.slice none 0 0) rfl rfl q1 Tryz.underlying85 rfl Yy) rfl (HP.out _ _ .nil _ q2 ?_ (TsV.nil _ _) ?_)
    ·rw[HE.out,HH.out]; exact Ya6 _ Zd
    ·intro x j q; rw[HE.out] at q; cases q
  ·have b1:decide ((4000:Int)<(l.nodes:Int))=false:=Zf;have b2:decide (4000<l.nodes)=false:=decide_eq_false hbig;have HE:Hid (((Rd.ok l j2).bind fun l j=>if 4000<l.nodes then YQ L en j 5 else .ok l j)= .ok l j2):=Zh (by show(if 4000<l.nodes then YQ L en j2 5 else .ok l j2)=_; rw[if_neg hbig]);clear hbig;go_wp2;obtain⟨q1,q2,q3⟩:=YeX HF2.out rfl (.slice ao L.length cap) (.int .i64 j2) (.int .i64 en) (.int .i64 0) (.int .i64 0);refine bodyPost_ret (Ya rfl _ _ (w.heap.size+1) 85 _ (0,0) _ (.slice aov l.len capv) rfl rfl q1 Tryz.underlying85 rfl Yy) rfl (HP.out _ _ l _ q2 ?_ (HV2.out.keep (fun k q hk=>q3.block k hk (by have q:W0.heap.size<=k:=q; have:=HB0.out; show ¬k=w.heap.size+1; omega)) (fun k q _=>by have q:W0.heap.size<=k:=q; have:=HB0.out; omega)) ?_)
   ·rw[HE.out]; exact YaZ _ hj
   ·intro x j q; rw[HE.out] at q; cases q; rfl
def Yb3 (L:List Tk)(en:Nat):Nat->Nat->Nat->Ss->Rd Ss
 |0,_,i,_=>.bad i 0
 |n+1,blocks,i,acc=>(Yg L en n blocks i).bind fun s k=>
   if isN L k 6 JA=true then (if isN L (k+1) 6 sEnd=true then .ok (acc.app s) (k+1) else Yb3 L en n blocks (k+1) (acc.app s)) else .ok (acc.app s) k
def YM (L:List Tk)(en:Nat):Nat->Nat->Nat->Rd Ss
 |0,_,i=>.bad i 0
 |n+1,blocks,i=>if isN L i 6 sEnd=true\/isN L i 6 JA=true then YQ L en i 53 else Yb3 L en n blocks i .nil
theorem YiG {L:List Tk}{en:Nat}:∀(n blocks i:Nat) (acc:Ss),YaF L en n blocks i acc=(Yb3 L en n blocks i acc).bind fun b k=>(Yh L en k sEnd).bind fun _ m=>.ok b m
 |0,_,_,_=>by unfold YaF Yb3; rfl
 |
  n+1,blocks,i,acc=>by
  unfold YaF Yb3;show(YK L en true i).bind (fun left j=>(JV L en n blocks j left []).bind fun s k=>_)=((Yg L en n blocks i).bind _).bind _;unfold Yg;rw[Rd.bind_assoc,Rd.bind_assoc];cases YK L en true i with
  |bad=>rfl
  |
   ok left j=>
   dsimp only[Rd.bind];cases JV L en n blocks j left [] with
   |bad=>rfl
   |
    ok s k=>
    dsimp only[Rd.bind];by_cases h1:isN L k 6 JA=true
    ·rw[if_pos h1,if_pos h1];by_cases h2:isN L (k+1) 6 sEnd=true
     ·rw[if_pos h2,if_pos h2];show Rd.ok (acc.app s) (k+1+1)=((Yh L en (k+1) sEnd).bind _);unfold Yh;rw[if_pos h2];rfl
     ·rw[if_neg h2,if_neg h2];exact YiG n blocks (k+1) (acc.app s)
    ·rw[if_neg h1,if_neg h1];by_cases h2:isN L k 6 sEnd=true
     ·rw[if_pos h2];show _=((Yh L en k sEnd).bind _);unfold Yh;rw[if_pos h2];rfl
     ·rw[if_neg h2];show _=((Yh L en k sEnd).bind _);unfold Yh YQ;rw[if_neg h2];rfl
theorem Yez {L:List Tk}{en:Nat}(n blocks i:Nat):YZ L en n blocks i=(YM L en n blocks i).bind fun b k=>(Yh L en k sEnd).bind fun _ m=>.ok b m:=by
 cases n with
 |zero=>unfold YZ YM; rfl
 |
  succ n=>
  unfold YZ YM;dsimp only;by_cases h:isN L i 6 sEnd=true\/isN L i 6 JA=true
  ·rw[if_pos h,if_pos h]; unfold YQ; rfl
  ·rw[if_neg h,if_neg h]; exact YiG _ _ _ _
theorem StOk.map {L:List Tk}{α β:Type}{X:Rd α}{f:α->β}{i a c:Int}(h:StOk L X i a c):StOk L (X.bind fun x k=>.ok (f x) k) i a c:=by cases X<;>exact h
theorem bind_ok {α β:Type}{X:Rd α}{f:α->β}{y:β}{k:Nat}(h:(X.bind fun x k=>.ok (f x) k)= .ok y k):∃x,X= .ok x k/\y=f x:=by
 cases X with
 |ok x j=>cases h; exact⟨x,rfl,rfl⟩
 |bad=>cases h
theorem StOk.must {L:List Tk}{en:Nat}{α β:Type}{X:Rd α}{s:ByteArray}{f:α->β}{i a c:Int}(h:StOk L (X.bind fun _ q=>Yh L en q s) i a c):StOk L ((X.bind fun b q=>(Yh L en q s).bind fun _ m=>.ok b m).bind fun b m=>.ok (f b) m) i a c:=by
 cases X with
 |bad=>exact h
 |
  ok x j=>
  dsimp only[Rd.bind] at h⊢;cases hm:Yh L en j s with
  |bad=>rw[hm] at h; exact h
  |ok u k=>rw[hm] at h; exact h
theorem YnH {L:List Tk}{en:Nat}{α β:Type}{X:Rd α}{s:ByteArray}{f:α->β}{y:β}{k:Nat}(h:((X.bind fun b q=>(Yh L en q s).bind fun _ m=>.ok b m).bind fun b m=>.ok (f b) m)= .ok y k):∃x j,X= .ok x j/\y=f x:=by
 obtain⟨b,m,h1,h2⟩:=Rd.bind_inv h;obtain⟨x,j,h3,h4⟩:=Rd.bind_inv h1;obtain⟨u,q,h5,h6⟩:=Rd.bind_inv h4;cases h6;cases h2;exact⟨_,_,h3,rfl⟩
section
variable {L:List Tk}{en:Nat}
def Ynv (L:List Tk)(en n blocks:Nat)(left:Ts)(tests:List (Ts×Ts))(Y:Rd Unit):Rd Ss:=Y.bind fun _ i=>JV L en n blocks i left tests
theorem Ymp {n blocks:Nat}{left:Ts}{tests:List (Ts×Ts)}{Y:Rd Unit}(h:isX L Y 6 JQ=false):
 Ynv L en (n+1) blocks left tests Y=((Y.bind fun _ i=>Yh L en i sEq).bind fun _ j=>YK L en false j).bind fun r k=>.ok (.cons left tests r .nil .nil .nil) k:=by
 cases Y with
 |bad=>rfl
 |
  ok u i=>
  show JV L en (n+1) blocks i left tests=_;rw[Ygg h,Rd.bind_assoc];rfl
theorem Yly {pat:Bool}{i:Nat}(hL:RL L)(hi:i<=L.length){l:Ts}{j:Nat}(h:YK L en pat i= .ok l j):i<=j/\j<=L.length:=by
 have h0:=JM h;unfold YK YQ at h;obtain⟨x,k,h1,h⟩:=Rd.bind_inv h;have:=YdQ hL.small _ _ _ _ _ _ hi h1;split at h
 ·cases h
 ·cases h; exact⟨h0,this.2⟩
theorem Ymo {n blocks i:Nat}{left:Ts}{tests:List (Ts×Ts)}(hL:RL L)(hc:isN L i 6 JQ=true){R:Rd Ss}(hR:JV L en (n+1) blocks i left tests=R)
 (hb:isX L ((YK L en false (i+1)).bind fun _ j=>Yh L en j YaR) 6 Y1=false){j a c:Int}(hst:StOk L (((YK L en false (i+1)).bind fun _ j=>Yh L en j YaR).bind fun _ k=>YK L en true k) j a c){e p:Ts}
 (he:∀x k,YK L en false (i+1)= .ok x k->e=x)(hp:∀x k,(((YK L en false (i+1)).bind fun _ j=>Yh L en j YaR).bind fun _ k=>YK L en true k)= .ok x k->p=x):
 (∃m:Nat,j=m/\a=0/\c=0/\i<m/\m<=L.length/\R=JV L en n blocks m left (tests++[(e,p)]))\/(∃(A:Nat) (C:Int),a=A/\c=C/\¬C=0/\R= .bad A C):=by
 have hi:=YeS hc;rw[Yc2 hc] at hR;cases hX:YK L en false (i+1) with
 |
  bad A C=>
  rw[hX] at hst hR;obtain⟨rfl,rfl,hC⟩:=hst;exact .inr ⟨A,_,rfl,rfl,hC,hR.symm⟩
 |
  ok x j1=>
  have h1:=Yly hL hi hX;rw[hX] at hst hR hb hp;dsimp only[Rd.bind] at hst hR hb hp;cases hM:Yh L en j1 YaR with
  |
   bad A C=>
   rw[hM] at hst hR;obtain⟨rfl,rfl,hC⟩:=hst;exact .inr ⟨A,_,rfl,rfl,hC,hR.symm⟩
  |
   ok u k=>
   have h2:=YG hM;have h3:=YeS h2.1;rw[hM] at hst hR hb hp;dsimp only[Rd.bind] at hst hR hb hp;rw[if_neg (by rw[show isN L k 6 Y1=false from hb]; decide)] at hR;cases hP:YK L en true k with
   |
    bad A C=>
    rw[hP] at hst hR;obtain⟨rfl,rfl,hC⟩:=hst;exact .inr ⟨A,_,rfl,rfl,hC,hR.symm⟩
   |
    ok y m=>
    have h4:=Yly hL Zo hP;rw[hP] at hst hR hp;obtain⟨rfl,rfl,rfl,hm⟩:=hst;obtain rfl:=he x j1 hX;obtain rfl:=hp y m rfl;exact .inl ⟨m,rfl,rfl,rfl,by omega,hm,hR.symm⟩
theorem Yku {n blocks i:Nat}{left:Ts}{tests:List (Ts×Ts)}(hc:isN L i 6 JQ=true){R:Rd Ss}(hR:JV L en (n+1) blocks i left tests=R)
 (hb:isX L ((YK L en false (i+1)).bind fun _ j=>Yh L en j YaR) 6 Y1=true){e:Ts}(he:∀x k,YK L en false (i+1)= .ok x k->e=x):
 ∃k,((YK L en false (i+1)).bind fun _ j=>Yh L en j YaR)= .ok () k/\i+2<=k/\k<L.length/\
  R=if 6<=blocks then YQ L en k 54 else ((YM L en n (blocks+1) (k+1)).bind fun b q=>(Yh L en q sEnd).bind fun _ m=>.ok b m).bind fun b m=>.ok (.cons left tests .nil e b .nil) m:=by
 rw[Yc2 hc] at hR;obtain⟨u,k,h1,h2⟩:=Yln hb;cases u;obtain⟨x,j,h3,h4⟩:=Rd.bind_inv h1;have h5:=YG h4;have h6:=JM h3;have h7:=YeS h2;obtain rfl:=he x j h3;refine⟨k,h1,by omega,h7,?_⟩;rw[h3] at hR;dsimp only[Rd.bind] at hR;rw[h4] at hR;dsimp only[Rd.bind] at hR;rw[if_pos h2] at hR;rw[<-hR,Yez];rfl
end
end Go.Proofs.YteamjdmhdfjopaaGreatDoor
