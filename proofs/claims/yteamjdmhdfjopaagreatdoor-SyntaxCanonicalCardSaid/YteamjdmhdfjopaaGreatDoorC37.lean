/- A part of the proof; it holds the texts Wri (names and blanks shortened). -/
import Derived.Test.YteamjdmhdfjopaaGreatDoorC24
import Derived.Test.YteamjdmhdfjopaaGreatDoorC9
import Derived.Deep.DeepCutAuto
import Derived.Deep.CutBlock
namespace Go.Proofs.YteamjdmhdfjopaaGreatDoor
open Go.RowKit
set_option maxRecDepth 100000
set_option maxHeartbeats 8000000
set_option linter.unusedVariables false
set_option linter.unusedSimpArgs false
set_option linter.unnecessarySimpa false
theorem Ybg (a b:List UInt8):Lib.byteCells (a++b)=Lib.byteCells a++Lib.byteCells b:=by simp[Lib.byteCells]
theorem Ycw (B b:Nat)(bs:List Value)(D:List UInt8)(c:UInt8)(n:Int)(hn:(c.toNat:Int)=n)(w:World)(h:IsB B b (bs++Lib.byteCells D) w)(hlen:bs.length+D.length<=1000000000000)(hB:B<=w.heap.size):
 Calls Tryz.prog 82 #[.pointer (some ⟨b,0,none⟩),.int .u8 n] w fun e w'=>e= .returned .nilIface/\IsB B b (bs++Lib.byteCells (D++[c])) w'/\YP B b w w':=by
 refine(Y5 B b _ n w h (by rw[List.length_append,Lib.byteCells_length]; omega) hB).mono ?_;rintro e w' ⟨h1,h2,h3⟩;refine⟨h1,.inr ?_,h3⟩;rw[Ybg,<-List.append_assoc];rw[<-hn] at h2;exact h2
theorem YjL (B b:Nat)(bs:List Value)(D:List UInt8)(s:ByteArray)(w:World)(h:IsB B b (bs++Lib.byteCells D) w)(hlen:bs.length+D.length+s.size<=1000000000000)(hB:B<=w.heap.size):
 Calls Tryz.prog 83 #[.pointer (some ⟨b,0,none⟩),.string s] w fun e w'=>e= .returned (.tuple #[.int .i64 s.size,.nilIface])/\IsB B b (bs++Lib.byteCells (D++s.data.toList)) w'/\YP B b w w':=by
 refine(J1 B b _ s w h (by rw[List.length_append,Lib.byteCells_length]; omega) hB).mono ?_;rintro e w' ⟨h1,h2,h3⟩;refine⟨h1,.inr ?_,h3⟩;rw[Ybg,<-List.append_assoc];exact h2
theorem YpQ (B b:Nat)(bs:List Value)(D:List UInt8)(c q:UInt8)(n:Int)(hn:(q.toNat:Int)=n)(w:World)(h:IsB B b (bs++Lib.byteCells D) w)(hlen:bs.length+D.length<=1000000000000)(hB:B<=w.heap.size):
 Calls Tryz.prog 252 #[.pointer (some ⟨b,0,none⟩),.int .u8 c.toNat,.int .u8 n] w fun e w'=>e= .returned (.tuple #[])/\IsB B b (bs++Lib.byteCells (D++escT q c)) w'/\YP B b w w':=by
 rw[<-hn];refine(Yly B b _ c q w h (by rw[List.length_append,Lib.byteCells_length]; omega) hB).mono ?_;rintro e w' ⟨h1,h2,h3⟩;refine⟨h1,?_,h3⟩;rw[Ybg,<-List.append_assoc];exact h2
def spB (prev:Option Int)(k:Int):List UInt8:=if prev.isSome=true/\(k≠1\/Jm prev=true) then [32] else []
def nxB (prev:Option Int)(k:Int):Bool:=k != 1||Jm prev
theorem Yp2 (prev:Option Int)(k:Int):(spB prev k).length<=1:=by unfold spB; split<;>simp
structure WrS (B b:Nat)(T:Ts)(ao:Option Addr)(bs:List Value)(w wr:World)(k:Nat)(rest:Ts)(prev:Option Int)(done:List UInt8):Prop where
 len:k+rest.len=T.len
 tail:rest≠.nil->∃g o,ao=some ⟨g,o,none⟩/\g<B/\rest.at wr (fun k=>k<B) g (o+k*3)
 size:done.length+2009*rest.nodes<=2009*T.nodes
 nodes:rest.nodes<=T.nodes
 right:rest.right 8=true
 text:done++rest.wr prev=T.wr none
 prevc:(k=0/\prev=none)\/∃m kp g o,k=m+1/\prev=some kp/\ao=some ⟨g,o,none⟩/\g<B/\wr.cell? ⟨g,o+m*3,none⟩=some (.int .i64 kp)
 isb:IsB B b (bs++Lib.byteCells done) wr
 only:YP B b w wr
section
variable {B b:Nat}{T:Ts}{bs:List Value}{w wr w2:World}{k g o:Nat}{kk:Int}{tt:ByteArray}{kids rest:Ts}{prev:Option Int}{done X:List UInt8}
theorem WrS.next (h:WrS B b T (some ⟨g,o,none⟩) bs w wr k (.cons kk tt kids rest) prev done)(ho:YP B b wr w2)(hX:X=Jt prev rest.headK kk tt (kids.len==0) (kids.wr none))(hi:IsB B b (bs++Lib.byteCells (done++X)) w2):
 WrS B b T (some ⟨g,o,none⟩) bs w w2 (k+1) rest (some kk) (done++X):=by
 obtain⟨h1,h2,h3,h4,h5,h6,_,_,h9⟩:=h;simp only[Ts.right,Bool.and_eq_true] at h5;simp only[Ts.len] at h1;simp only[Ts.nodes] at h3 h4;have e1:=Yes prev rest.headK kk tt (kids.len==0) (kids.wr none) (J9 h5.1.1.2);have e2:=YfM kids none h5.1.2;rw[<-hX] at e1;obtain⟨g',o',e,hg,c0,c1,_,hat⟩:=h2 (fun q=>by cases q);cases e;refine⟨by omega,fun hn=>⟨g,o,rfl,hg,?_⟩,by rw[List.length_append]; omega,by omega,h5.2,?_,.inr ⟨k,kk,g,o,rfl,rfl,rfl,hg,?_⟩,hi,h9.trans ho⟩
 ·rw[show o+(k+1)*3=o+k*3+3 by omega];exact Ts.at_keep rest g _ (.inl hg) hat (fun i q _=>ho.below.block i q) (fun _ q _=>q)
 ·rw[<-h6,Ts.wr,hX,List.append_assoc]
 ·exact(ho.below.cell (p:=⟨g,o+k*3,none⟩) hg).trans c0
end
def WrQ (B b:Nat)(cs:List Value)(w:World)(e:Ending)(w':World):Prop:=e= .returned (.tuple #[])/\IsB B b cs w'/\YP B b w w'
theorem Ybp {W:World}{q:Nat}{a b c:Value}{t:TypeId}(h:W.heap[q]? =some (.cells #[a,b,c] t (0,0))):W.cell? ⟨q,0,none⟩=some a/\W.cell? ⟨q,1,none⟩=some b/\W.cell? ⟨q,2,none⟩=some c:=by
 simp[World.cell?,h]
theorem Yog (B b:Nat):∀(m:Nat) (T:Ts) (v:Value) (bs:List Value) (w:World),T.nodes<m->T.right 8=true->TsV w (fun k=>k<B) v T->IsB B b bs w->b<w.heap.size->B<=b->bs.length+2009*T.nodes<=1000000000000->
 Calls Tryz.prog 230 #[.pointer (some ⟨b,0,none⟩),v] w (WrQ B b (bs++Lib.byteCells (T.wr none)) w):=by
 intro m;induction m with
 |zero=>intro T v bs w hm; omega
 |
  succ m ih=>
  intro T v bs w hm hr hT hI hbw hBb hlen;obtain⟨ao,cap,rfl,htail⟩:=hT;have IH:Hid _:=ih;have hTl:=Ts.len_le T;have hS0:Hid (WrS B b T ao bs w w 0 T none []):=Zh ⟨Nat.zero_add _,TsV.tail0 htail,by simp,Nat.le_refl _,hr,rfl,.inl ⟨rfl,rfl⟩,by simpa[Lib.byteCells] using hI,YP.refl B b w⟩;clear ih hr htail hI;go_enter Tryz.func230,Tryz.ntmps230;go_wp2;go_loopw [10] (fun i wr=>∃(k:Nat) (rest:Ts) (prev:Option Int) (done:List UInt8),i= .int .i64 k/\Hid (WrS B b T ao bs w wr k rest prev done)) (fun i _=>T.len - (intOf i).toNat)
  case atStart=>exact⟨0,T,none,[],rfl,hS0⟩
  case round=>
   obtain⟨k,rest,prev,done,rfl,HS⟩:=hrel;clear hS0;cases rest with
   |
    nil=>
    have hk:k=T.len:=by have:=HS.out.len; simpa[Ts.len] using this
    have l0:decide ((k:Int)<(T.len:Int))=false:=Zf;have l1:decide (k<T.len)=false:=Zf;clear hk;go_wp2;go_end0
    refine⟨rfl,?_,HS.out.only⟩;have h1:=HS.out.isb;have h2:=HS.out.text;rw[show Ts.wr prev .nil=[] from rfl,List.append_nil] at h2;rw[<-h2];exact h1
   |
    cons kk tt kids rest=>
    have hkl:=HS.out.len;simp only[Ts.len] at hkl;have l0:decide ((k:Int)<(T.len:Int))=true:=Zt;have l1:decide (k<T.len)=true:=Zt;obtain⟨g,o,rfl,hg,c0,c1,⟨ao2,cap2,c2,hkids⟩,hrest⟩:=HS.out.tail (fun q=>by cases q);have hR:=HS.out.right;simp only[Ts.right,Bool.and_eq_true,decide_eq_true_eq] at hR;have HR1:=Zh hR.1.1.2;have HR2:=Zh hR.1.2;have hsh:=J9 hR.1.1.2;have hsz:=HS.out.size;have hno:=HS.out.nodes;simp only[Ts.nodes] at hsz hno;have hwz:=HS.out.only.size;have hgw:g<wr.heap.size:=Zo;have HKI:=Zh hkids;have HRE:=Zh hrest;clear hkids hrest hR;go_upto_region 3 with(fail)
    obtain⟨V0,hV0⟩:∃V0,V0=wr.alloc (.cells #[.int .i64 kk,.string tt,.slice ao2 kids.len cap2] 223):=⟨_,rfl⟩;have hT0:V0.heap[wr.heap.size]? =some (.cells #[.int .i64 kk,.string tt,.slice ao2 kids.len cap2] 223 (0,0)):=by rw[hV0]; exact heap_alloc_new _ _
    have hO0:YP B b wr V0:=by rw[hV0]; exact YP.alloc Zo _
    have hb0:Below wr.heap.size wr V0:=by rw[hV0]; exact below_alloc1 _ _
    have HI0:=Zh (Yns HS.out.isb hb0);have HP:=Zh HS.out.prevc;have HT0:=Zh hT0;have HO0:=Zh hO0;obtain⟨t0,t1,t2⟩:=Ybp hT0;rw[<-hV0];clear hV0 c0 c1 c2 hT0 hO0;go_cut [6] (fun s6 wx=>s6= .bool (nxB prev kk)/\wx=V0)
    case first=>
     have hTl2:T.len<=1000000000000:=Zo;have HB0:=Zh hb0;have HPc:=HP.out;by_cases hk1:kk=1
     ·subst hk1;rcases HPc with⟨hk0,hp0⟩ | ⟨m',kp,g',o',hk0,hp0,e,hg',cp⟩
      ·subst hk0 hp0;clear hb0 HP HB0;go_wp2;go_meet
       exact⟨rfl,rfl⟩
      ·subst hk0 hp0;cases e;have cpV:=(HB0.out.cell (p:=⟨g,o+m'*3,none⟩) hgw).trans cp;have wm:IntKind.i64.wrap (((m':Int)+1) - 1)=m':=(IntWalk.i64_in _ Zo).trans Zo;have lm:decide (m'<T.len)=true:=Zt;clear hb0 HP HB0 cp;by_cases hkp:kp=1
       ·subst hkp;go_wp2;go_meet
        exact⟨rfl,rfl⟩
       ·have q1:(kp==1)=false:=by simpa using hkp
        have q2:(kp != 1)=true:=by simpa using hkp
        have HN:Hid (nxB (some kp) 1=true):=Zh (by simp[nxB,Jm,hkp]);clear hkp;go_wp2;go_meet
        exact⟨by rw[HN.out],rfl⟩
     ·have q1:(kk==1)=false:=by simpa using hk1
      have q2:(kk != 1)=true:=by simpa using hk1
      have HN:Hid (nxB prev kk=true):=Zh (by simp[nxB,hk1]);clear hk1 hb0 HP HB0 HPc;go_wp2;go_meet
      exact⟨by rw[HN.out],rfl⟩
    case rest=>
     obtain⟨rfl,rfl⟩:=hcut;have HN0:Hid (spB prev kk=if decide (0<k)=true/\nxB prev kk=true then [32] else []):=Zh (by
      rcases HP.out with⟨hk0,hp0⟩ | ⟨m',kp,g',o',hk0,hp0,_⟩
      ·subst hk0 hp0; simp[spB]
      ·subst hk0 hp0; simp[spB,nxB])
     have HN1:Hid (kk=1->nxB prev kk=Jm prev):=Zh (by rintro rfl; simp[nxB]);have HN2:Hid (k=0->nxB prev kk=true):=Zh (by
      intro hk0;rcases HP.out with⟨_,hp0⟩ | ⟨m',kp,g',o',hk1,_⟩
      ·subst hp0; simp[nxB,Jm]
      ·omega)
     generalize nxB prev kk=NX at HN0 HN1 HN2⊢;have hkb:(k:Int)<=1000000000000:=Zo;have HKL:=Zh hkl;have HB0:=Zh hb0;clear hkl hb0;go_upto_region 4 with(fail)
     go_cut [35] (fun s35 wx=>s35= .bool (decide (0<k)&&NX)/\wx=wc)
     case first=>
      by_cases hk0:k=0
      ·subst hk0;go_wp2;go_meet
       exact⟨rfl,rfl⟩
      ·have p0:decide (0<k)=true:=Zt;have p1:decide ((0:Int)<(k:Int))=true:=Zt;clear hk0;go_wp2;go_meet
       exact⟨by rw[p0]; rfl,rfl⟩
     case rest=>
      obtain⟨rfl,rfl⟩:=hcut;have HN4:Hid (spB prev kk=if (decide (0<k)&&NX)=true then [32] else []):=Zh (by rw[HN0.out]; simp);generalize(decide (0<k)&&NX)=SP at HN4⊢;go_upto_if 35 with(fail)
      go_cut [] (fun wx=>Hid (IsB B b (bs++Lib.byteCells (done++spB prev kk)) wx)/\Hid (YP B b wr wx)/\wr.heap.size<wx.heap.size/\Hid (wx.heap[wr.heap.size]? =some (.cells #[.int .i64 kk,.string tt,.slice ao2 kids.len cap2] 223 (0,0))))
      case first=>
       cases SP with
       |
        true=>
        go_wp2_with fail;refine(Ycw B b bs done 32 32 rfl wc HI0.out Zo (by have:=HO0.out.size; omega)).mono ?_;rintro e w3 ⟨rfl,hI3,hO3⟩;go_wp2_with fail;go_meet
        have hT3:=hO3.cells HT0.out Zo rfl;exact⟨Zh (by rw[HN4.out]; exact hI3),Zh (HO0.out.trans hO3),(Zg hT3).1,Zh hT3⟩
       |
        false=>
        go_wp2_with fail;go_meet
        exact⟨Zh (by rw[HN4.out]; simpa using HI0.out),HO0,(Zg HT0.out).1,HT0⟩
      case rest=>
       obtain⟨HI1,HO1,hlt1,HT1⟩:=hcut;obtain⟨t0,t1,t2⟩:=Ybp HT1.out;obtain⟨D1,HD1⟩:∃D1,Hid (D1=done++spB prev kk):=⟨_,Zh rfl⟩;rw[<-HD1.out] at HI1;have hD1:D1.length<=done.length+1:=by rw[HD1.out,List.length_append]; have:=Yp2 prev kk; omega
       have hsz1:=HO1.out.size;clear HP HN0 HN2 HN4 HB0 HI0 HT0 HO0;by_cases hk1:kk=1
       ·subst hk1;have hs1:tt.size=1:=by
         have:=HR1.out;unfold Yq at this;rw[if_neg Zd,if_neg Zd] at this;split at this
         ·cases this
         ·rw[if_pos rfl] at this; exact of_decide_eq_true this
        have HX:Hid (Jt prev rest.headK 1 tt (kids.len==0) (kids.wr none)=spB prev 1++((if NX=true then [39] else [])++escT 39 (bu tt 0)++(if Jm rest.headK=true then [39] else []))):=Zh (by
         rw[HN1.out rfl]; simp[Jt,spB])
        clear HN1;go_upto_if 46 with(fail)
        go_cut [] (fun wx=>Hid (IsB B b (bs++Lib.byteCells (D1++if NX=true then [39] else [])) wx)/\Hid (YP B b wr wx)/\wr.heap.size<wx.heap.size/\Hid (wx.heap[wr.heap.size]? =some (.cells #[.int .i64 1,.string tt,.slice ao2 kids.len cap2] 223 (0,0))))
        case first=>
         cases NX with
         |
          true=>
          go_wp2_with fail;refine(Ycw B b bs D1 39 39 rfl _ HI1.out Zo Zo).mono ?_;rintro e w3 ⟨rfl,hI3,hO3⟩;go_wp2_with fail;go_meet
          have hT3:=hO3.cells HT1.out Zo rfl;exact⟨Zh hI3,Zh (HO1.out.trans hO3),(Zg hT3).1,Zh hT3⟩
         |
          false=>
          go_wp2_with fail;go_meet
          exact⟨Zh (by simpa using HI1.out),HO1,hlt1,HT1⟩
        case rest=>
         obtain⟨HI2,HO2,hlt2,HT2⟩:=hcut;clear t0 t1 t2;obtain⟨t0,t1,t2⟩:=Ybp HT2.out;have hs0:0<tt.size:=Zo;have l3:decide (0<tt.size)=true:=decide_eq_true hs0;have hD2:(D1++if NX=true then [39] else []).length<=done.length+2:=by rw[List.length_append]; split<;>simp<;>omega
         have hz2:=HO2.out.size;have hbu:bu tt 0=tt[0]:=by unfold bu; rw[dif_pos hs0]
         have HBU:=Zh hbu;clear hbu;go_wp2_with fail;refine(YpQ B b bs _ tt[0] 39 39 rfl _ HI2.out Zo Zo).mono ?_;rintro e w3 ⟨rfl,hI3,hO3⟩;rw[<-HBU.out] at hI3;have HI3:=Zh hI3;have HO3:=Zh (HO2.out.trans hO3);have hT3:=hO3.cells HT2.out Zo rfl;have hcn:(rest≠.nil->∃kr,rest.headK=some kr/\w3.cell? ⟨g,o+(k+1)*3,none⟩=some (.int .i64 kr)):=fun hn=>by
          cases rest with
          |nil=>exact absurd rfl hn
          |cons k2 t2' kids2 rest2=>exact⟨k2,rfl,by rw[show o+(k+1)*3=o+k*3+3 by omega]; exact(HO3.out.below.cell (p:=⟨g,o+k*3+3,none⟩) hg).trans HRE.out.1⟩
         have HCN:=Zh hcn;clear hcn hI3 hO3 t0 t1 t2;obtain⟨t0,t1,t2⟩:=Ybp hT3;have hlt3:=(Zg hT3).1;have HT3:=Zh hT3;have hgw3:g<w3.heap.size:=Zo;have wk:IntKind.i64.wrap ((k:Int)+1)=k+1:=IntWalk.i64_in _ Zo;have hz3:=HO3.out.size;have HE:∀w9,Hid (YP B b w3 w9)->Hid (IsB B b (bs++Lib.byteCells ((D1++(if NX=true then [39] else []))++escT 39 (bu tt 0)++(if Jm rest.headK=true then [39] else []))) w9)->
          Hid (WrS B b T (some ⟨g,o,none⟩) bs w w9 (k+1) rest (some 1) (done++Jt prev rest.headK 1 tt (kids.len==0) (kids.wr none))):=fun w9 ho hi=>Zh (HS.out.next (HO3.out.trans ho.out) rfl (by
          have:=hi.out;rw[HX.out];rw[HD1.out] at this;simpa using this))
         have HEE:=Zh HE;clear HE hT3 l0 l1;by_cases hrn:rest= .nil
         ·have hkT:k+1=T.len:=by have:=HKL.out; rw[hrn] at this; simpa[Ts.len] using this
          have e1:(((k:Int)+1)==(T.len:Int))=true:=by rw[beq_iff_eq]; omega
          have HNK:Hid (Jm rest.headK=true):=Zh (by rw[hrn]; rfl);clear hkT hrn;go_wp2_with fail;refine(Ycw B b bs _ 39 39 rfl _ HI3.out (by rw[List.length_append]; have:=Ybz 39 (bu tt 0); omega) Zo).mono ?_;rintro e w4 ⟨rfl,hI4,hO4⟩;have HF:=HEE.out w4 (Zh hO4) (Zh (by rw[HNK.out,if_pos rfl]; exact hI4));clear hI4 hO4;go_wp2_with fail;go_roundw
          case rel=>exact⟨k+1,rest,_,_,by go_num,HF⟩
          case measure=>(have:=HKL.out; simp[intOf]; omega)
         ·obtain⟨kr,hkr,ckr⟩:=HCN.out hrn;have hlr:rest.len≠0:=fun q=>hrn ((Ts.len_zero rest).1 q);have hkT:=HKL.out;have e1:(((k:Int)+1)==(T.len:Int))=false:=by rw[beq_eq_false_iff_ne]; omega
          have l4:decide (k+1<T.len)=true:=Zt;have p5:(0:Int)<=(k:Int)+1:=Zo;have p6:(k:Int)+1<(T.len:Int):=Zo;have p7:((k:Int)+1).toNat=k+1:=Zo;have HKR:=Zh hkr;clear hkr hrn hlr hkT;by_cases hk2:kr=1
          ·subst hk2;have HF:=HEE.out w3 (Zh (YP.refl B b w3)) (Zh (by rw[HKR.out,show(if Jm (some 1)=true then [39] else ([]:List UInt8))=[] from rfl,List.append_nil]; exact HI3.out));go_wp2_with fail;go_roundw
           case rel=>exact⟨k+1,rest,_,_,by go_num,HF⟩
           case measure=>(have:=HKL.out; simp[intOf]; omega)
          ·have q1:(kr==1)=false:=by simpa using hk2
           have q2:(kr != 1)=true:=by simpa using hk2
           have HNK:Hid (Jm rest.headK=true):=Zh (by rw[HKR.out]; simp[Jm,hk2]);clear hk2;go_wp2_with fail;refine(Ycw B b bs _ 39 39 rfl _ HI3.out (by rw[List.length_append]; have:=Ybz 39 (bu tt 0); omega) Zo).mono ?_;rintro e w4 ⟨rfl,hI4,hO4⟩;have HF:=HEE.out w4 (Zh hO4) (Zh (by rw[HNK.out,if_pos rfl]; exact hI4));clear hI4 hO4;go_wp2_with fail;go_roundw
           case rel=>exact⟨k+1,rest,_,_,by go_num,HF⟩
           case measure=>(have:=HKL.out; simp[intOf]; omega)
       by_cases hk2:kk=2
       ·subst hk2;clear HN1 hk1;by_cases hnm:Yh 60 tt=true
        ·have HX:Hid (Jt prev rest.headK 2 tt (kids.len==0) (kids.wr none)=spB prev 2++tt.data.toList):=Zh (by
          simp[Jt,spB,hnm])
         have hC:=fun w=>Yff tt 60 w Zd Zd;rw[hnm] at hC;clear hnm;go_wp2_with fail;refine(hC _).mono ?_;rintro e w' ⟨rfl,rfl⟩;clear hC;go_wp2_with fail;refine(YjL B b bs D1 tt _ HI1.out Zo Zo).mono ?_;rintro e w3 ⟨rfl,hI3,hO3⟩;have HF:Hid (WrS B b T (some ⟨g,o,none⟩) bs w w3 (k+1) rest (some 2) (done++Jt prev rest.headK 2 tt (kids.len==0) (kids.wr none))):=Zh (HS.out.next (HO1.out.trans hO3) rfl (by
          rw[HX.out,<-List.append_assoc,<-HD1.out]; exact hI3))
         clear hI3 hO3;go_wp2_with fail;go_roundw
         case rel=>exact⟨k+1,rest,_,_,by go_num,HF⟩
         case measure=>(have:=HKL.out; simp[intOf]; omega)
        ·have hnm2:Yh 60 tt=false:=by simpa using hnm
         have HX:Hid (Jt prev rest.headK 2 tt (kids.len==0) (kids.wr none)=spB prev 2++34::(tt.data.toList.flatMap (escT 34)++[34])):=Zh (by
          simp[Jt,spB,hnm])
         have hC:=fun w=>Yff tt 60 w Zd Zd;rw[hnm2] at hC;clear hnm hnm2;go_wp2_with fail;refine(hC _).mono ?_;rintro e w' ⟨rfl,rfl⟩;clear hC;go_wp2_with fail;refine(Ycw B b bs D1 34 34 rfl _ HI1.out Zo Zo).mono ?_;rintro e w3 ⟨rfl,hI3,hO3⟩;have hT3:=hO3.cells HT1.out Zo rfl;have HO3:=Zh (HO1.out.trans hO3);have HI3:=Zh hI3;clear t0 t1 t2 hI3 hO3;obtain⟨t0,t1,t2⟩:=Ybp hT3;have hz3:=HO3.out.size;have hST:Hid (IsB B b (bs++Lib.byteCells (D1++[34]++(tt.data.toList.take 0).flatMap (escT 34))) w3/\YP B b wr w3/\w3.heap[wr.heap.size]? =some (.cells #[.int .i64 2,.string tt,.slice ao2 kids.len cap2] 223 (0,0))):=Zh ⟨by simpa using HI3.out,HO3.out,hT3⟩;clear hT3;obtain⟨wo,rfl⟩:∃wo,wo=wr:=⟨_,rfl⟩;go_wp2_with fail;go_loopw [84] (fun i wx=>∃j:Nat,j<=tt.size/\i= .int .i64 j/\Hid (IsB B b (bs++Lib.byteCells (D1++[34]++(tt.data.toList.take j).flatMap (escT 34))) wx/\YP B b wo wx/\wx.heap[wo.heap.size]? =some (.cells #[.int .i64 2,.string tt,.slice ao2 kids.len cap2] 223 (0,0)))) (fun i _=>tt.size - (intOf i).toNat)
         case atStart=>exact⟨0,Nat.zero_le _,rfl,hST⟩
         case round=>
          obtain⟨j,hj,rfl,HJ⟩:=hrel;obtain⟨t0,t1,t2⟩:=Ybp HJ.out.2.2;have hlj:=Ya2 34 (tt.data.toList.take j);have hlt9:(tt.data.toList.take j).length<=j:=List.length_take_le _ _;have hzj:=HJ.out.2.1.size;by_cases hjt:j<tt.size
          ·have e1:decide ((j:Int)<(tt.size:Int))=true:=Zt;have e2:decide (j<tt.size)=true:=decide_eq_true hjt;have HTK:Hid ((tt.data.toList.take (j+1)).flatMap (escT 34)=(tt.data.toList.take j).flatMap (escT 34)++escT 34 tt[j]):=Zh (by
            rw[List.take_succ_eq_append_getElem (by simpa using hjt),List.flatMap_append];simp;rfl)
           go_wp2_with fail;refine(YpQ B b bs _ tt[j] 34 34 rfl _ HJ.out.1 (by rw[List.length_append,List.length_append,List.length_singleton]; omega) Zo).mono ?_;rintro e w5 ⟨rfl,hI5,hO5⟩;have HN:Hid (IsB B b (bs++Lib.byteCells (D1++[34]++(tt.data.toList.take (j+1)).flatMap (escT 34))) w5/\YP B b wo w5/\w5.heap[wo.heap.size]? =some (.cells #[.int .i64 2,.string tt,.slice ao2 kids.len cap2] 223 (0,0))):=Zh ⟨by rw[HTK.out,<-List.append_assoc]; exact hI5,HJ.out.2.1.trans hO5,hO5.cells HJ.out.2.2 Zo rfl⟩;clear hI5 hO5;go_wp2_with fail;go_roundw
           case rel=>exact⟨j+1,by omega,by go_num,HN⟩
           case measure=>simp[intOf]; omega
          ·have hje:j=tt.size:=by omega
           have e1:decide ((j:Int)<(tt.size:Int))=false:=Zf;have e2:decide (j<tt.size)=false:=Zf;have HTK:Hid (tt.data.toList.take j=tt.data.toList):=Zh (by rw[hje]; exact List.take_of_length_le Zs);clear hje hjt;go_wp2_with fail;refine(Ycw B b bs _ 34 34 rfl _ HJ.out.1 (by rw[List.length_append,List.length_append,List.length_singleton]; omega) Zo).mono ?_;rintro e w5 ⟨rfl,hI5,hO5⟩;have HF:Hid (WrS B b T (some ⟨g,o,none⟩) bs w w5 (k+1) rest (some 2) (done++Jt prev rest.headK 2 tt (kids.len==0) (kids.wr none))):=Zh (HS.out.next (HJ.out.2.1.trans hO5) rfl (by
            rw[HX.out,<-List.append_assoc,<-HD1.out];rw[HTK.out] at hI5;rw[show D1++34::(tt.data.toList.flatMap (escT 34)++[34])=D1++[34]++tt.data.toList.flatMap (escT 34)++[34] by simp];exact hI5))
           clear hI5 hO5;go_wp2_with fail;go_roundw
           case rel=>exact⟨k+1,rest,_,_,by go_num,HF⟩
           case measure=>(have:=HKL.out; simp[intOf]; omega)
       by_cases hk3:kk=3
       ·subst hk3;have HX:Hid (Jt prev rest.headK 3 tt (kids.len==0) (kids.wr none)=spB prev 3++tt.data.toList):=Zh rfl;clear HN1 hk1 hk2;go_wp2_with fail;refine(YjL B b bs D1 tt _ HI1.out Zo Zo).mono ?_;rintro e w3 ⟨rfl,hI3,hO3⟩;have HF:Hid (WrS B b T (some ⟨g,o,none⟩) bs w w3 (k+1) rest (some 3) (done++Jt prev rest.headK 3 tt (kids.len==0) (kids.wr none))):=Zh (HS.out.next (HO1.out.trans hO3) rfl (by
         rw[HX.out,<-List.append_assoc,<-HD1.out]; exact hI3))
        clear hI3 hO3;go_wp2_with fail;go_roundw
        case rel=>exact⟨k+1,rest,_,_,by go_num,HF⟩
        case measure=>(have:=HKL.out; simp[intOf]; omega)
       by_cases hk4:kk=4
       ·subst hk4;have HX:Hid (Jt prev rest.headK 4 tt (kids.len==0) (kids.wr none)=spB prev 4++40::(kids.wr none++[41])):=Zh rfl;clear HN1 hk1 hk2 hk3;have HKL2:=Zh (YfM kids none HR2.out);have hkn:kids.nodes<m:=Zo;go_wp2_with fail;refine(Ycw B b bs D1 40 40 rfl _ HI1.out Zo Zo).mono ?_;rintro e w3 ⟨rfl,hI3,hO3⟩;have hT3:=hO3.cells HT1.out Zo rfl;have HO3:=Zh (HO1.out.trans hO3);have HI3:=Zh hI3;clear t0 t1 t2 hI3 hO3;obtain⟨t0,t1,t2⟩:=Ybp hT3;have hz3:=HO3.out.size;have hkv:TsV w3 (fun k=>k<B) (.slice ao2 kids.len cap2) kids:=TsV.keep (w:=wr) (S:=fun k=>k<B) ⟨ao2,cap2,rfl,HKI.out⟩ (fun i q _=>HO3.out.below.block i q) (fun _ q _=>q);have HIH:=Zh (IH.out kids _ _ w3 hkn HR2.out hkv HI3.out Zo hBb (by rw[List.length_append,Lib.byteCells_length,List.length_append,List.length_singleton]; omega));clear hT3 hkv;go_wp2_with fail;refine HIH.out.mono ?_;rintro e w4 ⟨rfl,hI4,hO4⟩;have hI5:IsB B b (bs++Lib.byteCells (D1++[40]++kids.wr none)) w4:=by rw[Ybg,<-List.append_assoc]; exact hI4
        have HI4:=Zh hI5;have HO4:=Zh (HO3.out.trans hO4);clear HIH hI4 hO4 hI5 t0 t1 t2;have hz4:=HO4.out.size;go_wp2_with fail;refine(Ycw B b bs _ 41 41 rfl _ HI4.out (by rw[List.length_append,List.length_append,List.length_singleton]; have:=HKL2.out; omega) Zo).mono ?_;rintro e w5 ⟨rfl,hI5,hO5⟩;have HF:Hid (WrS B b T (some ⟨g,o,none⟩) bs w w5 (k+1) rest (some 4) (done++Jt prev rest.headK 4 tt (kids.len==0) (kids.wr none))):=Zh (HS.out.next (HO4.out.trans hO5) rfl (by
         rw[HX.out,<-List.append_assoc,<-HD1.out];rw[show D1++40::(kids.wr none++[41])=D1++[40]++kids.wr none++[41] by simp];exact hI5))
        clear hI5 hO5;go_wp2_with fail;go_roundw
        case rel=>exact⟨k+1,rest,_,_,by go_num,HF⟩
        case measure=>(have:=HKL.out; simp[intOf]; omega)
       by_cases hk8:kk=8
       ·subst hk8;clear HN1 hk1 hk2 hk3 hk4;have HKL2:=Zh (YfM kids none HR2.out);have hkn:kids.nodes<m:=Zo;have hlt8:((⟨#[60]⟩:ByteArray)++tt).size=tt.size+1:=by rw[ByteArray.size_append]; show 1+_=_; omega
        have hb8:((⟨#[60]⟩:ByteArray)++tt).data.toList=60::tt.data.toList:=by simp[ByteArray.data_append]
        have HB8:=Zh hb8;have HL8:=Zh hlt8;have p8:((⟨#[60]⟩:ByteArray)++tt).size<=100000000000000:=Zo;have p9:tt.size<=1000000:=Zo;clear hb8 hlt8;go_wp2_with fail;refine(YjL B b bs D1 _ _ HI1.out (by rw[HL8.out]; omega) Zo).mono ?_;rintro e w3 ⟨rfl,hI3,hO3⟩;rw[HB8.out] at hI3;have hT3:=hO3.cells HT1.out Zo rfl;have HO3:=Zh (HO1.out.trans hO3);have HI3:=Zh hI3;clear t0 t1 t2 hI3 hO3;obtain⟨t0,t1,t2⟩:=Ybp hT3;have hlt3:=(Zg hT3).1;have HT3:=Zh hT3;have hz3:=HO3.out.size;have hll:(D1++60::tt.data.toList).length<=done.length+2+tt.size:=by rw[List.length_append,List.length_cons,show tt.data.toList.length=tt.size from Array.length_toList]; omega
        clear hT3;have HX:Hid (Jt prev rest.headK 8 tt (kids.len==0) (kids.wr none)=spB prev 8++60::(tt.data.toList++((if (kids.len==0)=true then [] else [32])++(kids.wr none++[62])))):=Zh rfl;go_upto_if 122 with(fail)
        go_cut [] (fun wx=>Hid (IsB B b (bs++Lib.byteCells (D1++60::tt.data.toList++(if (kids.len==0)=true then [] else [32]))) wx/\YP B b wr wx/\wx.heap[wr.heap.size]? =some (.cells #[.int .i64 8,.string tt,.slice ao2 kids.len cap2] 223 (0,0))))
        case first=>
         by_cases hk0:kids.len=0
         ·have e1:¬0<kids.len:=by omega
          have HQ:Hid (IsB B b (bs++Lib.byteCells (D1++60::tt.data.toList++(if (kids.len==0)=true then [] else [32]))) w3/\YP B b wr w3/\w3.heap[wr.heap.size]? =some (.cells #[.int .i64 8,.string tt,.slice ao2 kids.len cap2] 223 (0,0))):=Zh ⟨by rw[hk0]; simpa using HI3.out,HO3.out,HT3.out⟩;clear hk0;go_wp2_with fail;go_meet
          exact HQ
         ·have e1:0<kids.len:=by omega
          have HZ:Hid ((if (kids.len==0)=true then [] else [32])=([32]:List UInt8)):=Zh (if_neg (by simpa using hk0));clear hk0;go_wp2_with fail;refine(Ycw B b bs _ 32 32 rfl _ HI3.out Zo Zo).mono ?_;rintro e w4 ⟨rfl,hI4,hO4⟩;have HQ:Hid (IsB B b (bs++Lib.byteCells (D1++60::tt.data.toList++(if (kids.len==0)=true then [] else [32]))) w4/\YP B b wr w4/\w4.heap[wr.heap.size]? =some (.cells #[.int .i64 8,.string tt,.slice ao2 kids.len cap2] 223 (0,0))):=Zh ⟨by rw[HZ.out]; exact hI4,HO3.out.trans hO4,hO4.cells HT3.out Zo rfl⟩;clear hI4 hO4;go_wp2_with fail;go_meet
          exact HQ
        case rest=>
         obtain⟨D2,HD2⟩:∃D2,Hid (D2=D1++60::tt.data.toList++(if (kids.len==0)=true then [] else [32])):=⟨_,Zh rfl⟩;rw[<-HD2.out] at hcut;obtain⟨hI4,hO4,hT4⟩:=Hid.out hcut;have hl2:D2.length<=done.length+3+tt.size:=by rw[HD2.out,List.length_append]; split<;>simp only[List.length_cons,List.length_nil]<;>omega
         clear t0 t1 t2;obtain⟨t0,t1,t2⟩:=Ybp hT4;have hz4:=hO4.size;have hkv:TsV wc (fun k=>k<B) (.slice ao2 kids.len cap2) kids:=TsV.keep (w:=wr) (S:=fun k=>k<B) ⟨ao2,cap2,rfl,HKI.out⟩ (fun i q _=>hO4.below.block i q) (fun _ q _=>q);have HIH:=Zh (IH.out kids _ _ wc hkn HR2.out hkv hI4 Zo hBb (by rw[List.length_append,Lib.byteCells_length]; omega));have HO4:=Zh hO4;clear hT4 hkv hI4 hO4 hcut;go_wp2_with fail;refine HIH.out.mono ?_;rintro e w5 ⟨rfl,hI5,hO5⟩;have hI6:IsB B b (bs++Lib.byteCells (D2++kids.wr none)) w5:=by rw[Ybg,<-List.append_assoc]; exact hI5
         have HI5:=Zh hI6;have HO5:=Zh (HO4.out.trans hO5);clear HIH hI5 hO5 hI6 t0 t1 t2;have hz5:=HO5.out.size;go_wp2_with fail;refine(Ycw B b bs _ 62 62 rfl _ HI5.out (by rw[List.length_append]; have:=HKL2.out; omega) Zo).mono ?_;rintro e w6 ⟨rfl,hI6,hO6⟩;have HF:Hid (WrS B b T (some ⟨g,o,none⟩) bs w w6 (k+1) rest (some 8) (done++Jt prev rest.headK 8 tt (kids.len==0) (kids.wr none))):=Zh (HS.out.next (HO5.out.trans hO6) rfl (by
          rw[HX.out,<-List.append_assoc,<-HD1.out];rw[show D1++60::(tt.data.toList++((if (kids.len==0)=true then [] else [32])++(kids.wr none++[62])))=D1++60::tt.data.toList++(if (kids.len==0)=true then [] else [32])++kids.wr none++[62] by simp,<-HD2.out];exact hI6))
         clear hI6 hO6;go_wp2_with fail;go_roundw
         case rel=>exact⟨k+1,rest,_,_,by go_num,HF⟩
         case measure=>(have:=HKL.out; simp[intOf]; omega)
       ·have HX:Hid (Jt prev rest.headK kk tt (kids.len==0) (kids.wr none)=spB prev kk++(YaO kk tt).data.toList):=Zh (by
         unfold Jt spB; rw[if_neg hk1,if_neg hk2,if_neg hk3,if_neg hk4,if_neg hk8])
        have b1:(kk==1)=false:=by simpa using hk1
        have b2:(kk==2)=false:=by simpa using hk2
        have b3:(kk==3)=false:=by simpa using hk3
        have b4:(kk==4)=false:=by simpa using hk4
        have b8:(kk==8)=false:=by simpa using hk8
        have hN:=fun w=>Ym3 kk tt ao2 kids.len cap2 w Zo;have hnl:=Ye5 kk tt;have HC1:=HT1;clear HN1 hk1 hk2 hk3 hk4 hk8;go_wp2_with fail;refine(hN _).mono ?_;rintro e w3 ⟨rfl,hb3⟩;have hI3:=Zh (Yns HI1.out hb3);have hO3:YP B b wr w3:=HO1.out.trans (YP.of_below hb3 Zo);have HO3:=Zh hO3;have hz3:=hO3.size;clear hb3 hO3 hN t0 t1 t2;generalize YaO kk tt=nm at HX hnl⊢;go_wp2_with fail;refine(YjL B b bs D1 nm _ hI3.out Zo Zo).mono ?_;rintro e w4 ⟨rfl,hI4,hO4⟩;have HF:Hid (WrS B b T (some ⟨g,o,none⟩) bs w w4 (k+1) rest (some kk) (done++Jt prev rest.headK kk tt (kids.len==0) (kids.wr none))):=Zh (HS.out.next (HO3.out.trans hO4) rfl (by
         rw[HX.out,<-List.append_assoc,<-HD1.out]; exact hI4))
        clear hI4 hO4;go_wp2_with fail;go_roundw
        case rel=>exact⟨k+1,rest,_,_,by go_num,HF⟩
        case measure=>(have:=HKL.out; simp[intOf]; omega)
end Go.Proofs.YteamjdmhdfjopaaGreatDoor
