/- A part of the proof; it holds the texts Rq (names and blanks shortened). -/
import Derived.Test.YteamjdmhdfjopaaGreatDoorM11
import Derived.Test.YteamjdmhdfjopaaGreatDoorM12
import Derived.Deep.RegionWith
namespace Go.Proofs.YteamjdmhdfjopaaGreatDoor
open Go.RowKit
set_option maxRecDepth 100000
set_option maxHeartbeats 8000000
set_option linter.unusedVariables false
set_option linter.unusedSimpArgs false
def quoV:QuoR->ByteArray×Int
 |.bad=>(⟨#[]⟩,-1)
 |.ok out fin=>(⟨out.toArray⟩,fin)
structure RqW (w:World)(out:List UInt8)(vv:Value)(wr:World):Prop where
 below:Below w.heap.size w wr
 own:wr.ownsRow w.heap.size 5 1 vv out.length (Lib.byteCells out)
section
variable {w wr w1:World}{out:List UInt8}{vv:Value}
theorem RqW.drewN (h:RqW w out vv wr)(k:Nat):RqW w out vv (wr.drewN k):=⟨below_drewN h.below k,h.own⟩
theorem RqW.push {obj:Obj}{gg cap n:Nat}{cs:List Value}(h:RqW w out vv wr)(x:UInt8)(hcs:cs=Lib.byteCells out++[.int .u8 (x.toNat:Int)])(hn:n=out.length+1)
 (h1:w1.ownsRow w.heap.size 5 1 (.slice (some ⟨gg,0,none⟩) n cap) n cs)(hg:(wr.alloc obj).grownBy w1 vv.ownBlock):RqW w (out++[x]) (.slice (some ⟨gg,0,none⟩) n cap) w1:=by
 subst hcs hn;have hs:=h.below.size;refine⟨(h.below.alloc hs obj).grown hg (by simp; omega) (fun k hk=>(h.own.lt k hk).1),?_⟩;rw[List.length_append,List.length_singleton,show Lib.byteCells (out++[x])=Lib.byteCells out++[.int .u8 (x.toNat:Int)] by simp[Lib.byteCells]];exact h1
theorem RqW.text (h:RqW w out vv wr):(convert 129 9 vv).run Tryz.prog wr= .ok (.string ⟨out.toArray⟩) wr:=by
 rcases h.own.2 with⟨e,h0⟩ | ⟨g,cap,cur,e,_⟩
 ·rw[e,List.length_eq_zero_iff.1 h0];exact Lib.run_convert_nil_bytes wr 129 9 5 0 Tryz.underlying129 Tryz.underlying5 Tryz.underlying9
 ·have hc:=h.own.cells (g:=g) (by rw[e]; rfl);rw[e];exact run_convert_bytes_back wr 129 9 5 ⟨g,0,none⟩ cap out Tryz.underlying129 Tryz.underlying5 Tryz.underlying9 (fun j hj=>hc j _ (by simp[Lib.byteCells,hj]))
end
theorem YnR:∀a c:Fin 16,IntKind.u8.wrap (16*(a.val:Int)+(c.val:Int))=((hex2 a.val c.val).toNat:Int):=by decide+kernel
theorem YmQ {a c:Int}(a0:0<=a)(a1:a<=15)(c0:0<=c)(c1:c<=15):IntKind.u8.wrap (16*a+c)=((hex2 a c).toNat:Int):=by
 obtain⟨a,rfl⟩:=Int.eq_ofNat_of_zero_le a0;obtain⟨c,rfl⟩:=Int.eq_ofNat_of_zero_le c0;exact YnR ⟨a,by omega⟩ ⟨c,by omega⟩
theorem YcG (s:ByteArray)(i:Nat)(mk:Int)(w:World)(hs:s.size<=1000000)(hi:i<s.size)(hmk:bt s i=mk)(hq:mk=39\/mk=34)(R:QuoR)(n:Nat)(hn:s.size - (i+1)<n)(hR:quoN s mk n (i+1) []=R):
 Calls Tryz.prog 181 #[.string s,.int .i64 i] w fun e w'=>e= .returned (.tuple #[.string (quoV R).1,.int .i64 (quoV R).2])/\Below w.heap.size w w':=by
 have HR:=Zh hR;have HQ:=Zh hq;have l0:decide (i<s.size)=true:=decide_eq_true hi;have HMK:Hid (((s[i]'hi).toNat:Int)=mk):=(Yq hi).trans hmk;have hmk0:=YB s i;have hmk1:=Jk s i;rw[hmk] at hmk0 hmk1;clear hR hq hmk;obtain⟨i0,hi0,hz0,hz1,hz2⟩:=info_parts YnO;have wi:IntKind.i64.wrap ((i:Int)+1)=i+1:=IntWalk.i64_in _ Zo;go_enter Tryz.func181,Tryz.ntmps181;go_wp2;rw[HMK.out];go_loopw [8,7] (fun x v7 wr=>∃(k:Nat) (out:List UInt8) (vv:Value),k<=s.size/\x= .int .i64 k/\vv=v7/\Hid (RqW w out vv wr)/\Hid (∃n',s.size - k<n'/\quoN s mk n' k out=R)/\out.length<=k) (fun x _ _=>s.size - (intOf x).toNat)
 case atStart=>exact⟨i+1,[],_,by omega,by go_num,rfl,Zh ⟨below_alloc1 _ _,⟨rfl,.inr ⟨_,0,#[],rfl,Nat.le_refl _,heap_alloc_new w _,by simp[Lib.byteCells,maxLen]⟩⟩⟩,Zh ⟨n,hn,HR.out⟩,by simp⟩
 case round=>
  obtain⟨k,out,vv,hk,rfl,rfl,HW,HK,hol⟩:=hrel;have hwsz:=HW.out.below.size;have hown:=HW.out.own;by_cases hkl:k<s.size
  ·have l1:decide ((k:Int)<(s.size:Int))=true:=Zt;have l2:decide (k<s.size)=true:=decide_eq_true hkl;have wk:IntKind.i64.wrap ((k:Int)+1)=k+1:=IntWalk.i64_in _ Zo;have wk1:IntKind.i64.wrap ((k:Int)+1+1)=(k:Int)+2:=(IntWalk.i64_in _ Zo).trans Zo;have wk2:IntKind.i64.wrap ((k:Int)+1+2)=(k:Int)+3:=(IntWalk.i64_in _ Zo).trans Zo;have wk3:IntKind.i64.wrap ((k:Int)+3+1)=(k:Int)+4:=(IntWalk.i64_in _ Zo).trans Zo;have wk4:IntKind.i64.wrap ((k:Int)+2+1)=(k:Int)+3:=(IntWalk.i64_in _ Zo).trans Zo;have HB:Hid (((s[k]'hkl).toNat:Int)=bt s k):=Yq hkl;have HBU:Hid (((s[k]'hkl).toNat:Int)=((bu s k).toNat:Int)):=Zh ((Yq hkl).trans (YhF s k));obtain⟨n',hn',hqq⟩:=HK.out;obtain⟨m,rfl⟩:∃m,n'=m+1:=⟨n' - 1,by omega⟩;have HQQ:=Zh hqq;clear hqq;by_cases hm:((s[k]'hkl).toNat:Int)=mk
   ·have hmb:(((s[k]'hkl).toNat:Int)==mk)=true:=beq_iff_eq.2 hm;have HX:Hid (R= .ok out (k+1)):=Zh (Yh3 HQQ.out (HB.out.symm.trans hm));have htx:=HW.out.text;clear hm;go_wp2;go_ret2
    exact⟨by rw[HX.out]; rfl,HW.out.below⟩
   have hmb:(((s[k]'hkl).toNat:Int)==mk)=false:=beq_eq_false_iff_ne.2 hm;have HM:Hid (¬bt s k=mk):=Zh (by rw[<-HB.out]; exact hm);clear hm;by_cases h32:((s[k]'hkl).toNat:Int)<32
   ·have d1:decide (((s[k]'hkl).toNat:Int)<32)=true:=decide_eq_true h32;have HX:Hid (R= .bad):=Zh (YcT HQQ.out HM.out (.inr (.inl (by rw[<-HB.out]; exact h32))));clear h32;go_wp2;go_ret2
    exact⟨by rw[HX.out]; rfl,HW.out.below⟩
   have d1:decide (((s[k]'hkl).toNat:Int)<32)=false:=decide_eq_false h32;by_cases h126:(126:Int)<((s[k]'hkl).toNat:Int)
   ·have d2:decide ((126:Int)<((s[k]'hkl).toNat:Int))=true:=decide_eq_true h126;have HX:Hid (R= .bad):=Zh (YcT HQQ.out HM.out (.inr (.inr (by rw[<-HB.out]; exact h126))));clear h32 h126;go_wp2;go_ret2
    exact⟨by rw[HX.out]; rfl,HW.out.below⟩
   have d2:decide ((126:Int)<((s[k]'hkl).toNat:Int))=false:=decide_eq_false h126;have HNB:Hid (¬(s.size<=k\/bt s k<32\/126<bt s k)):=Zh (by rw[<-HB.out]; omega);clear h32 h126;by_cases h92:((s[k]'hkl).toNat:Int)=92
   ·have n92:(
     ((s[k]'hkl).toNat:Int) != 92)=false:=by simpa using h92
    have H92:Hid (bt s k=92):=Zh (HB.out.symm.trans h92);clear h92;by_cases hk1:k+1<s.size
    ·have m1:decide ((s.size:Int)<=(k:Int)+1)=false:=Zf;have m2:decide (k+1<s.size)=true:=decide_eq_true hk1;have HB1:Hid (((s[k+1]'hk1).toNat:Int)=bt s (k+1)):=Yq hk1;have HBU1:Hid (((s[k+1]'hk1).toNat:Int)=((bu s (k+1)).toNat:Int)):=Zh ((Yq hk1).trans (YhF s (k+1)));have hu8:(((bu s (k+1)).toNat:Int)).toNat.toUInt8=bu s (k+1):=Zs;have HU8:=Zh hu8;clear hu8;by_cases e92:((s[k+1]'hk1).toNat:Int)=92
     ·have b92:(((s[k+1]'hk1).toNat:Int)==92)=true:=beq_iff_eq.2 e92;have HE:Hid (escF mk (bt s (k+1))=some (bt s (k+1))):=Zh (by rw[<-HB1.out,e92]; rcases HQ.out with q | q<;>rw[q]<;>rfl);clear e92;have HK2:Hid (quoN s mk m (k+2) (out++[bu s (k+1)])=R):=Zh (by have:=YdG HQQ.out HM.out HNB.out H92.out HE.out; rwa [YhF,HU8.out] at this);go_wp2_with (at_builtin; refine wpList_append_lies _ Zr _ _ _ Zr w.heap.size 5 i0 _ 1 1 Tryz.underlying129 hi0 hz0 hz1 hz2 Zr Zo _ out.length (Lib.byteCells out) Zr (hown.alloc _) ⟨wr.heap.size,0,none⟩ 1 1 [.int .u8 ((s[k+1]'hk1).toNat:Int)] Zr Zr (World.news_of_block (cs:=#[.int .u8 ((s[k+1]'hk1).toNat:Int)]) (t:=5) (fr:=(0,0)) (heap_alloc_new _ _)) (by simp[Value.oneCell']) Zo (by unfold maxLen; omega) Zo (by simp; omega) _ Zr ?_; intro gg cap2 w3 hown1 hgrow hat hlt9; have hP:=Zh (HW.out.push (bu s (k+1)) (by rw[HBU1.out]) rfl hown1 hgrow); clear hgrow hown1 hat hlt9);go_roundw
      case rel=>exact⟨(k+2),_,_,by omega,by go_num,rfl,hP,Zh ⟨m,by omega,HK2.out⟩,by simp; omega⟩
      case measure=>simp[intOf]; omega
     have b92:(((s[k+1]'hk1).toNat:Int)==92)=false:=beq_eq_false_iff_ne.2 e92;by_cases em:((s[k+1]'hk1).toNat:Int)=mk
     ·have bm:(((s[k+1]'hk1).toNat:Int)==mk)=true:=beq_iff_eq.2 em;have HE:Hid (escF mk (bt s (k+1))=some (bt s (k+1))):=Zh (by rw[<-HB1.out,em]; rcases HQ.out with q | q<;>rw[q]<;>rfl);clear e92 em;have HK2:Hid (quoN s mk m (k+2) (out++[bu s (k+1)])=R):=Zh (by have:=YdG HQQ.out HM.out HNB.out H92.out HE.out; rwa [YhF,HU8.out] at this);go_wp2_with (at_builtin; refine wpList_append_lies _ Zr _ _ _ Zr w.heap.size 5 i0 _ 1 1 Tryz.underlying129 hi0 hz0 hz1 hz2 Zr Zo _ out.length (Lib.byteCells out) Zr (hown.alloc _) ⟨wr.heap.size,0,none⟩ 1 1 [.int .u8 ((s[k+1]'hk1).toNat:Int)] Zr Zr (World.news_of_block (cs:=#[.int .u8 ((s[k+1]'hk1).toNat:Int)]) (t:=5) (fr:=(0,0)) (heap_alloc_new _ _)) (by simp[Value.oneCell']) Zo (by unfold maxLen; omega) Zo (by simp; omega) _ Zr ?_; intro gg cap2 w3 hown1 hgrow hat hlt9; have hP:=Zh (HW.out.push (bu s (k+1)) (by rw[HBU1.out]) rfl hown1 hgrow); clear hgrow hown1 hat hlt9);go_roundw
      case rel=>exact⟨(k+2),_,_,by omega,by go_num,rfl,hP,Zh ⟨m,by omega,HK2.out⟩,by simp; omega⟩
      case measure=>simp[intOf]; omega
     have bm:(((s[k+1]'hk1).toNat:Int)==mk)=false:=beq_eq_false_iff_ne.2 em;by_cases h34:mk=34
     ·have n39:(mk==39)=false:=beq_eq_false_iff_ne.2 Zo;have HE:Hid (escF mk (bt s (k+1))=none):=Zh (by
       rw[<-HB1.out]; unfold escF; rw[if_pos h34,if_neg e92,if_neg (by rw[<-h34]; exact em)])
      have H34:=Zh h34;clear e92 em h34;have HX:Hid (R= .bad):=Zh (JX HQQ.out HM.out HNB.out H92.out HE.out (.inl H34.out));go_wp2;go_ret2
      exact⟨by rw[HX.out]; rfl,HW.out.below⟩
     have h39:mk=39:=HQ.out.resolve_right h34;have n39:(mk==39)=true:=beq_iff_eq.2 h39;have HE0:Hid (escF mk (bt s (k+1))=if bt s (k+1)=110 then some 10 else if bt s (k+1)=116 then some 9 else none):=Zh (by
      rw[<-HB1.out]; unfold escF; rw[if_neg h34,if_neg e92,if_neg (by rw[<-h39]; exact em)])
     have H34:=Zh h34;clear e92 em h34 h39;by_cases e110:((s[k+1]'hk1).toNat:Int)=110
     ·have b110:(((s[k+1]'hk1).toNat:Int)==110)=true:=beq_iff_eq.2 e110;have HE:Hid (escF mk (bt s (k+1))=some 10):=Zh (by rw[HE0.out,if_pos (by rw[<-HB1.out]; exact e110)]);clear e110;have HK2:Hid (quoN s mk m (k+2) (out++[10])=R):=Zh (YdG HQQ.out HM.out HNB.out H92.out HE.out);go_wp2_with (at_builtin; refine wpList_append_lies _ Zr _ _ _ Zr w.heap.size 5 i0 _ 1 1 Tryz.underlying129 hi0 hz0 hz1 hz2 Zr Zo _ out.length (Lib.byteCells out) Zr (hown.alloc _) ⟨wr.heap.size,0,none⟩ 1 1 [.int .u8 10] Zr Zr (World.news_of_block (cs:=#[.int .u8 10]) (t:=5) (fr:=(0,0)) (heap_alloc_new _ _)) (by simp[Value.oneCell']) Zo (by unfold maxLen; omega) Zo (by simp; omega) _ Zr ?_; intro gg cap2 w3 hown1 hgrow hat hlt9; have hP:=Zh (HW.out.push (10) rfl rfl hown1 hgrow); clear hgrow hown1 hat hlt9);go_roundw
      case rel=>exact⟨(k+2),_,_,by omega,by go_num,rfl,hP,Zh ⟨m,by omega,HK2.out⟩,by simp; omega⟩
      case measure=>simp[intOf]; omega
     have b110:(((s[k+1]'hk1).toNat:Int)==110)=false:=beq_eq_false_iff_ne.2 e110;by_cases e116:((s[k+1]'hk1).toNat:Int)=116
     ·have b116:(((s[k+1]'hk1).toNat:Int)==116)=true:=beq_iff_eq.2 e116;have HE:Hid (escF mk (bt s (k+1))=some 9):=Zh (by rw[HE0.out,if_neg (by rw[<-HB1.out]; exact e110),if_pos (by rw[<-HB1.out]; exact e116)]);clear e110 e116;have HK2:Hid (quoN s mk m (k+2) (out++[9])=R):=Zh (YdG HQQ.out HM.out HNB.out H92.out HE.out);go_wp2_with (at_builtin; refine wpList_append_lies _ Zr _ _ _ Zr w.heap.size 5 i0 _ 1 1 Tryz.underlying129 hi0 hz0 hz1 hz2 Zr Zo _ out.length (Lib.byteCells out) Zr (hown.alloc _) ⟨wr.heap.size,0,none⟩ 1 1 [.int .u8 9] Zr Zr (World.news_of_block (cs:=#[.int .u8 9]) (t:=5) (fr:=(0,0)) (heap_alloc_new _ _)) (by simp[Value.oneCell']) Zo (by unfold maxLen; omega) Zo (by simp; omega) _ Zr ?_; intro gg cap2 w3 hown1 hgrow hat hlt9; have hP:=Zh (HW.out.push (9) rfl rfl hown1 hgrow); clear hgrow hown1 hat hlt9);go_roundw
      case rel=>exact⟨(k+2),_,_,by omega,by go_num,rfl,hP,Zh ⟨m,by omega,HK2.out⟩,by simp; omega⟩
      case measure=>simp[intOf]; omega
     have b116:(((s[k+1]'hk1).toNat:Int)==116)=false:=beq_eq_false_iff_ne.2 e116;have HE:Hid (escF mk (bt s (k+1))=none):=Zh (by rw[HE0.out,if_neg (by rw[<-HB1.out]; exact e110),if_neg (by rw[<-HB1.out]; exact e116)]);clear e110 e116;by_cases e120:((s[k+1]'hk1).toNat:Int)=120
     ·have b120:(((s[k+1]'hk1).toNat:Int)==120)=true:=beq_iff_eq.2 e120;have H120:Hid (bt s (k+1)=120):=Zh (HB1.out.symm.trans e120);clear e120;by_cases hk3:k+3<s.size
      ·obtain⟨k2,hk2e⟩:∃k2,k2=k+2:=⟨_,rfl⟩;obtain⟨k3,hk3e⟩:∃k3,k3=k+3:=⟨_,rfl⟩;have hk2:k2<s.size:=Zo;have hk3':k3<s.size:=Zo;have m3:decide ((k3:Int)<(s.size:Int))=true:=Zt;have m4:decide (k2<s.size)=true:=decide_eq_true hk2;have m5:decide (k3<s.size)=true:=decide_eq_true hk3';have wk1':IntKind.i64.wrap ((k:Int)+1+1)=(k2:Int):=wk1.trans Zo;have wk2':IntKind.i64.wrap ((k:Int)+1+2)=(k3:Int):=wk2.trans Zo;have wk3':IntKind.i64.wrap ((k3:Int)+1)=(k:Int)+4:=(IntWalk.i64_in _ Zo).trans Zo;have HB2:Hid (((s[k2]'hk2).toNat:Int)=bt s (k+2)):=Zh ((Yq hk2).trans (by rw[hk2e]));have HB3:Hid (((s[k3]'hk3').toNat:Int)=bt s (k+3)):=Zh ((Yq hk3').trans (by rw[hk3e]));clear wk1 wk2 wk3 wk4 hk2e hk3e;have hH2:∀w,Calls Tryz.prog 219 #[.int .u8 ((s[k2]'hk2).toNat:Int)] w fun e w'=>e= .returned (.int .i64 (hexI (bt s (k+2))))/\w'=w:=fun w=>by
        rw[HB2.out]; exact Yhd _ (YB s (k+2)) (Jk s (k+2)) w
       have hH3:∀w,Calls Tryz.prog 219 #[.int .u8 ((s[k3]'hk3').toNat:Int)] w fun e w'=>e= .returned (.int .i64 (hexI (bt s (k+3))))/\w'=w:=fun w=>by
        rw[HB3.out]; exact Yhd _ (YB s (k+3)) (Jk s (k+3)) w
       cases ha:hexv (bt s (k+2)) with
       |
        none=>
        have ha2:hexI (bt s (k+2))= -1:=by unfold hexI; rw[ha]; rfl
        rw[ha2] at hH2;have HA:=Zh ha;clear ha ha2;have HX:Hid (R= .bad):=Zh (JX HQQ.out HM.out HNB.out H92.out HE.out (.inr (.inr (.inl HA.out))));go_wp2_with (go_at_call 219; refine(hH2 _).mono ?_; rintro e w9 ⟨rfl,rfl⟩);go_ret2
        exact⟨by rw[HX.out]; rfl,HW.out.below⟩
       |
        some a=>
        have ha2:hexI (bt s (k+2))=a:=by unfold hexI; rw[ha]; rfl
        rw[ha2] at hH2;have HA:=Zh ha;obtain⟨a0,a1⟩:=Ygu ha;have g1:decide (0<=a)=true:=decide_eq_true a0;clear ha ha2;cases hb:hexv (bt s (k+3)) with
        |
         none=>
         have hb2:hexI (bt s (k+3))= -1:=by unfold hexI; rw[hb]; rfl
         rw[hb2] at hH3;have HX:Hid (R= .bad):=Zh (JX HQQ.out HM.out HNB.out H92.out HE.out (.inr (.inr (.inr hb))));clear hb hb2;go_wp2_with (first | (go_at_call_of 219 k2; refine(hH2 _).mono ?_; rintro e w9 ⟨rfl,rfl⟩) | (go_at_call_of 219 k3; refine(hH3 _).mono ?_; rintro e w9 ⟨rfl,rfl⟩));go_ret2
         exact⟨by rw[HX.out]; rfl,HW.out.below⟩
        |
         some c=>
         have hb2:hexI (bt s (k+3))=c:=by unfold hexI; rw[hb]; rfl
         rw[hb2] at hH3;have HC:=Zh hb;obtain⟨c0,c1⟩:=Ygu hb;have g2:decide (0<=c)=true:=decide_eq_true c0;have x1:IntKind.i64.wrap (16*a)=16*a:=IntWalk.i64_in _ Zo;have x2:IntKind.i64.wrap (16*a+c)=16*a+c:=IntWalk.i64_in _ Zo;have x3:=YmQ a0 a1 c0 c1;have HK2:Hid (quoN s mk m (k+4) (out++[hex2 a c])=R):=Zh (YkU HQQ.out HM.out HNB.out H92.out HE.out H34.out H120.out HA.out HC.out);clear hb hb2;go_wp2_with (first | (go_at_call_of 219 k2; refine(hH2 _).mono ?_; rintro e w9 ⟨rfl,rfl⟩) | (go_at_call_of 219 k3; refine(hH3 _).mono ?_; rintro e w9 ⟨rfl,rfl⟩));go_region_law (first
          |(go_simp; go_at_call_of 219 k2; refine(hH2 _).mono ?_; rintro e w9 ⟨rfl,rfl⟩)
          |(go_simp; go_at_call_of 219 k3; refine(hH3 _).mono ?_; rintro e w9 ⟨rfl,rfl⟩)
          |(refine step_append_lies _ Zr _ _ _ Zr w.heap.size 5 i0 _ 1 1 Tryz.underlying129 hi0 hz0 hz1 hz2 Zr Zo _ out.length (Lib.byteCells out) Zr (hown.alloc _) ⟨w9.heap.size,0,none⟩ 1 1 [.int .u8 (hex2 a c).toNat] Zr Zr (World.news_of_block (cs:=#[.int .u8 (hex2 a c).toNat]) (t:=5) (fr:=(0,0)) (heap_alloc_new _ _)) (by simp[Value.oneCell']) Zo (by unfold maxLen; omega) Zo (by simp; omega) _ Zr ?_; intro gg cap2 w3 hown1 hgrow hat hlt9; have hP:=Zh ((HW.out.drewN 1).push (hex2 a c) rfl rfl hown1 hgrow); clear hgrow hown1 hat hlt9))
         all_goals go_wp2
         all_goals go_roundw
         all_goals first
          |exact⟨k+4,_,_,by omega,by go_num,rfl,hP,Zh ⟨m,by omega,HK2.out⟩,by simp; omega⟩
          |(simp[intOf]; omega)
      ·have m3:decide ((k:Int)+3<(s.size:Int))=false:=Zf;have HX:Hid (R= .bad):=Zh (JX HQQ.out HM.out HNB.out H92.out HE.out (.inr (.inr (.inr (by rw[JU Zo]; rfl)))));go_wp2;go_ret2
       exact⟨by rw[HX.out]; rfl,HW.out.below⟩
     ·have b120:(((s[k+1]'hk1).toNat:Int)==120)=false:=beq_eq_false_iff_ne.2 e120;have H120:Hid (¬bt s (k+1)=120):=Zh (by rw[<-HB1.out]; exact e120);clear e120;have HX:Hid (R= .bad):=Zh (JX HQQ.out HM.out HNB.out H92.out HE.out (.inr (.inl H120.out)));go_wp2;go_ret2
      exact⟨by rw[HX.out]; rfl,HW.out.below⟩
    ·have m1:decide ((s.size:Int)<=(k:Int)+1)=true:=Zt;have HE:Hid (escF mk (bt s (k+1))=none):=Zh (by rw[JU Zo]; rcases HQ.out with q | q<;>rw[q]<;>rfl);have HX:Hid (R= .bad):=Zh (JX HQQ.out HM.out HNB.out H92.out HE.out (.inr (.inl (by rw[JU Zo]; decide))));go_wp2;go_ret2
     exact⟨by rw[HX.out]; rfl,HW.out.below⟩
   ·have n92:(((s[k]'hkl).toNat:Int) != 92)=true:=by simpa using h92
    have H92:Hid (¬bt s k=92):=Zh (by rw[<-HB.out]; exact h92);clear h92;have HK2:Hid (quoN s mk m (k+1) (out++[bu s k])=R):=Zh (YeI HQQ.out HM.out HNB.out H92.out);go_wp2_with (at_builtin; refine wpList_append_lies _ Zr _ _ _ Zr w.heap.size 5 i0 _ 1 1 Tryz.underlying129 hi0 hz0 hz1 hz2 Zr Zo _ out.length (Lib.byteCells out) Zr (hown.alloc _) ⟨wr.heap.size,0,none⟩ 1 1 [.int .u8 ((s[k]'hkl).toNat:Int)] Zr Zr (World.news_of_block (cs:=#[.int .u8 ((s[k]'hkl).toNat:Int)]) (t:=5) (fr:=(0,0)) (heap_alloc_new _ _)) (by simp[Value.oneCell']) Zo (by unfold maxLen; omega) Zo (by simp; omega) _ Zr ?_; intro gg cap2 w3 hown1 hgrow hat hlt9; have hP:=Zh (HW.out.push (bu s k) (by rw[HBU.out]) rfl hown1 hgrow); clear hgrow hown1 hat hlt9);go_roundw
    case rel=>exact⟨(k+1),_,_,by omega,by go_num,rfl,hP,Zh ⟨m,by omega,HK2.out⟩,by simp; omega⟩
    case measure=>simp[intOf]; omega
  ·have l1:decide ((k:Int)<(s.size:Int))=false:=Zf;obtain⟨n',hn',hqq⟩:=HK.out;obtain⟨m,rfl⟩:∃m,n'=m+1:=⟨n' - 1,by omega⟩;have HX:Hid (R= .bad):=Zh (YcT hqq (by rw[JU Zo]; rcases HQ.out with q | q<;>omega) (.inl Zo));clear hqq;go_wp2;go_ret2
   exact⟨by rw[HX.out]; rfl,HW.out.below⟩
end Go.Proofs.YteamjdmhdfjopaaGreatDoor
