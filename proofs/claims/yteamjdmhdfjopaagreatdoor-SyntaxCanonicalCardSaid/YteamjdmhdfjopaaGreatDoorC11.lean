/- A part of the proof; it holds the texts Tce Tcf Rla Blo Chk (names and blanks shortened). -/
import Derived.Test.YteamjdmhdfjopaaGreatDoorC10
import Derived.Test.YteamjdmhdfjopaaGreatDoorC5
import Derived.Test.YteamjdmhdfjopaaGreatDoorC9
import Derived.Test.YteamjdmhdfjopaaGreatDoorC2
import Derived.Test.YteamjdmhdfjopaaGreatDoorCS
import Derived.RegionCalls
import Derived.OwnWalk
namespace Go.Proofs.YteamjdmhdfjopaaGreatDoor
open Go.RowKit
set_option maxRecDepth 100000
set_option maxHeartbeats 8000000
set_option linter.unusedVariables false
set_option linter.unusedSimpArgs false
section
open Go.RowKit Go.Lib
theorem empty_of {s:ByteArray}(h:s.size=0):s=ByteArray.empty:=by simpa using h
theorem Yj5 {k:Int}{t:ByteArray}{n:Nat}(h4:¬k=4)(h8:¬k=8)(hn:n=0):Yq k t n=if k=1 then decide (t.size=1) else if k=2 then YY t else if k=3 then Y8 t else if k=5\/k=6\/k=7 then YbI t else false:=by
 unfold Yq;rw[if_neg h4,if_neg h8,if_neg (by simpa using hn)]
theorem Yh3 (k:Int)(t:ByteArray)(ao:Option Addr)(n cap:Nat)(w:World)(ht:t.size<=1000000):
 Calls Tryz.prog 188 #[.agg #[.int .i64 k,.string t,.slice ao n cap]] w fun e w'=>e= .returned (.bool (Yq k t n))/\Below w.heap.size w w':=by
 have hb0:=below_alloc1 w (.cells #[.int .i64 k,.string t,.slice ao n cap] 223);by_cases h4:k=4
 ·subst h4;have HR:Hid (Yq 4 t n=decide (t.size=0)):=Zh rfl;generalize Yq 4 t n=R at HR⊢;by_cases h0:t.size=0
  ·obtain rfl:=empty_of h0;go_enter Tryz.func188,Tryz.ntmps188;go_wp2;go_ret;exact⟨by rw[HR.out]; rfl,hb0⟩
  ·have hl:¬t.toList=[]:=YaJ h0;have hl2:t.toList.isEmpty=false:=by simpa using hl
   have HR2:Hid (R=false):=Zh (by rw[HR.out,decide_eq_false h0]);clear h0;go_enter Tryz.func188,Tryz.ntmps188;go_wp2;go_ret;exact⟨by rw[HR2.out]; rfl,hb0⟩
 ·have b4:(k==4)=false:=by simpa using h4
  by_cases h8:k=8
  ·subst h8;have hI:=Yff t 40 (w.alloc (.cells #[.int .i64 8,.string t,.slice ao n cap] 223)) Zo Zo;have HR:Hid (Yq 8 t n=Yh 40 t):=Zh rfl;generalize Yq 8 t n=R at HR⊢;clear h4;go_enter Tryz.func188,Tryz.ntmps188;go_wp2_with fail;refine hI.mono ?_;rintro e w1 ⟨rfl,rfl⟩;clear hI;go_wp2;go_ret;exact⟨by rw[HR.out]; rfl,hb0⟩
  ·have b8:(k==8)=false:=by simpa using h8
   by_cases hn:n=0
   ·subst hn;have HRR:=Zh (Yj5 (t:=t) (n:=0) h4 h8 rfl);generalize Yq k t 0=R at HRR⊢;by_cases h1:k=1
    ·subst h1;have HR2:Hid (R=decide (t.size=1)):=Zh (by rw[HRR.out]; rfl);have hd:decide ((t.size:Int)=1)=decide (t.size=1):=by rw[decide_eq_decide]; omega
     have hd2:((t.size:Int)==1)=decide (t.size=1):=by rw[Bool.eq_iff_iff,beq_iff_eq,decide_eq_true_eq]; omega
     clear h4 h8 HRR;go_enter Tryz.func188,Tryz.ntmps188;go_wp2;go_ret;exact⟨by rw[HR2.out]; rfl,hb0⟩
    ·have b1:(k==1)=false:=by simpa using h1
     by_cases h2:k=2
     ·subst h2;have HR2:Hid (R=YY t):=Zh (by rw[HRR.out]; rfl);clear h4 h8 h1 HRR;by_cases h0:t.size=0
      ·obtain rfl:=empty_of h0;go_enter Tryz.func188,Tryz.ntmps188;go_wp2;go_ret;exact⟨by rw[HR2.out]; rfl,hb0⟩
      ·have hl:¬t.toList=[]:=YaJ h0;have hl2:t.toList.isEmpty=false:=by simpa using hl
       by_cases hz:t.size<=60
       ·have g1:decide ((t.size:Int)<=60)=true:=Zt;have HR3:Hid (R=decide (Yf t JB 0=t.size)):=Zh (by rw[HR2.out]; unfold YY; rw[decide_eq_true h0,decide_eq_true hz]; rfl);have hW:=Yoi t (w.alloc (.cells #[.int .i64 2,.string t,.slice ao 0 cap] 223));generalize decide (Yf t JB 0=t.size)=B at HR3 hW;clear h0;go_enter Tryz.func188,Tryz.ntmps188;go_wp2_with fail;refine hW.mono ?_;rintro e w1 ⟨rfl,hb1⟩;clear hW;go_wp2;go_ret;exact⟨by rw[HR3.out]; simp,hb0.trans (hb1.mono hb0.size)⟩
       ·have g1:decide ((t.size:Int)<=60)=false:=Zf;have HR3:Hid (R=false):=Zh (by rw[HR2.out]; unfold YY; rw[decide_eq_false hz]; simp);clear h0;go_enter Tryz.func188,Tryz.ntmps188;go_wp2;all_goals first
         |(go_ret; exact⟨by rw[HR3.out]; simp,hb0⟩)
         |(exfalso; simp_all<;>omega)
     ·have b2:(k==2)=false:=by simpa using h2
      by_cases h3:k=3
      ·subst h3;have HR2:Hid (R=Y8 t):=Zh (by rw[HRR.out]; rfl);have hI:=Ynm t (w.alloc (.cells #[.int .i64 3,.string t,.slice ao 0 cap] 223)) ht;generalize Y8 t=B at HR2 hI;clear h4 h8 h1 h2 HRR;go_enter Tryz.func188,Tryz.ntmps188;go_wp2_with fail;refine hI.mono ?_;rintro e w1 ⟨rfl,rfl⟩;clear hI;go_wp2;go_ret;exact⟨by rw[HR2.out]; rfl,hb0⟩
      ·have b3:(k==3)=false:=by simpa using h3
       by_cases hv:k=5\/k=6\/k=7
       ·have HR2:Hid (R=YbI t):=Zh (by rw[HRR.out,if_neg h1,if_neg h2,if_neg h3,if_pos hv]);clear h4 h8 h1 h2 h3 HRR;by_cases h0:t.size=0
        ·obtain rfl:=empty_of h0;rcases hv with rfl | rfl | rfl;all_goals
          go_enter Tryz.func188,Tryz.ntmps188;go_wp2;go_ret;exact⟨by rw[HR2.out]; rfl,hb0⟩
        ·have hl:¬t.toList=[]:=YaJ h0;have hl2:t.toList.isEmpty=false:=by simpa using hl
         by_cases hz:t.size<=40
         ·have g1:decide ((t.size:Int)<=40)=true:=Zt;have HR3:Hid (R=decide (Yf t (tis 3) 0=t.size)):=Zh (by rw[HR2.out]; unfold YbI; rw[decide_eq_true h0,decide_eq_true hz,YeS t (fun j=>(Ych _ (Yan t j) (YaU t j)).2.1) 0 (Nat.zero_le _)]; rfl);have hW:=fun w=>Yfn t 3 Zo w ht;generalize decide (Yf t (tis 3) 0=t.size)=B at HR3 hW;clear h0;rcases hv with rfl | rfl | rfl;all_goals
           go_enter Tryz.func188,Tryz.ntmps188;go_wp2_with fail;refine(hW _).mono ?_;rintro e w1 ⟨rfl,rfl⟩;clear hW;go_wp2;go_ret;exact⟨by rw[HR3.out]; simp,hb0⟩
         ·have g1:decide ((t.size:Int)<=40)=false:=Zf;have HR3:Hid (R=false):=Zh (by rw[HR2.out]; unfold YbI; rw[decide_eq_false hz]; simp);clear h0;rcases hv with rfl | rfl | rfl;all_goals
           go_enter Tryz.func188,Tryz.ntmps188;go_wp2;all_goals first
            |(go_ret; exact⟨by rw[HR3.out]; simp,hb0⟩)
            |(exfalso; simp_all<;>omega)
       ·have HR2:Hid (R=false):=Zh (by rw[HRR.out,if_neg h1,if_neg h2,if_neg h3,if_neg hv]);have b5:(k==5)=false:=by simpa using fun q=>hv (.inl q)
        have b6:(k==6)=false:=by simpa using fun q=>hv (.inr (.inl q))
        have b7:(k==7)=false:=by simpa using fun q=>hv (.inr (.inr q))
        clear h4 h8 h1 h2 h3 hv HRR;go_enter Tryz.func188,Tryz.ntmps188;go_wp2;go_ret;exact⟨by rw[HR2.out]; rfl,hb0⟩
   ·have l0:decide ((0:Int)<(n:Int))=true:=Zt;have l1:decide (0<n)=true:=Zt;have HR:Hid (Yq k t n=false):=Zh (by unfold Yq; rw[if_neg h4,if_neg h8,if_pos hn]);generalize Yq k t n=R at HR⊢;clear h4 h8 hn;go_enter Tryz.func188,Tryz.ntmps188;go_wp2;go_ret;exact⟨by rw[HR.out]; rfl,hb0⟩
end
section
open Go.RowKit Go.Lib
def ste8:ByteArray:=⟨#[115,116,101]⟩
theorem YkA (s:ByteArray){i:Nat}(h:i<s.size):s.extract i (i+1)=⟨#[s[i]'h]⟩:=by
 have hz:(s.extract i (i+1)).size=1:=by rw[ByteArray.size_extract]; omega
 apply ByteArray.ext;apply Array.ext
 ·show(s.extract i (i+1)).size=1;exact hz
 ·intro j h1 h2;have hj:j=0:=by have:j<1:=h2; omega
  subst hj;show(s.extract i (i+1))[0]'(by rw[hz]; omega)=s[i];rw[ByteArray.getElem_extract];rfl
theorem Ymp (c:UInt8):decide (0<=Lib.indexByte ste8.data.toList c)=steB (c.toNat:Int)/\(steB (c.toNat:Int)=true->5+Lib.indexByte ste8.data.toList c=JS (c.toNat:Int)/\0<=Lib.indexByte ste8.data.toList c/\Lib.indexByte ste8.data.toList c<=2):=by
 have:∀i:Fin 256,decide (0<=Lib.indexByte ste8.data.toList (UInt8.ofNat i.val))=steB (i.val:Int)/\(steB (i.val:Int)=true->5+Lib.indexByte ste8.data.toList (UInt8.ofNat i.val)=JS (i.val:Int)/\0<=Lib.indexByte ste8.data.toList (UInt8.ofNat i.val)/\Lib.indexByte ste8.data.toList (UInt8.ofNat i.val)<=2):=by decide+kernel
 have h:=this ⟨c.toNat,c.toNat_lt⟩;dsimp only at h;rw[UInt8.ofNat_toNat] at h;exact h
theorem Yqq (s:ByteArray)(h:0<s.size)(w:World):
 Calls Tryz.prog 31 #[.string ste8,.string (s.extract 0 1)] w fun e w'=>e= .returned (.bool (steB (bt s 0)))/\w'=w:=by
 have h1:=Tryz.strings_Contains_one ste8 (s[0]'h) w;rw[(Ymp _).1,Je h,<-YkA s h] at h1;exact h1
theorem Yra (s:ByteArray)(h:0<s.size)(hs:steB (bt s 0)=true)(w:World):
 ∃x:Int,5+x=JS (bt s 0)/\0<=x/\x<=2/\∀w,Calls Tryz.prog 76 #[.string ste8,.string (s.extract 0 1)] w fun e w'=>e= .returned (.int .i64 x)/\w'=w:=by
 have h2:=(Ymp (s[0]'h)).2;rw[Je h] at h2;obtain⟨e1,e2,e3⟩:=h2 hs;refine⟨_,e1,e2,e3,fun w=>?_⟩;have h1:=Tryz.strings_Index_one ste8 (s[0]'h) w;rw[<-YkA s h] at h1;exact h1
theorem Yl3 (s:ByteArray)(h2:2<=s.size)(h46:bt s 1=46)(hs:steB (bt s 0)=true):YF s=Yq (JS (bt s 0)) (s.extract 2 s.size) 0:=by
 have hk:=YfO (bt s 0);rw[Yj5 Zo Zo rfl,if_neg Zo,if_neg Zo,if_neg Zo,if_pos hk];unfold YF YbI;rw[Yp6 s _ 2 h2,ext_size,hs,show(bt s 1==46)=true by simpa using h46];simp only[Bool.and_true];congr 1
 rw[Bool.eq_iff_iff];simp only[Bool.and_eq_true,decide_eq_true_eq];omega
theorem YjN {W:World}{g:Nat}{x0 y0 z0:Value}{t:TypeId}(x y z:Value)(h:W.heap[g]? =some (.cells #[x0,y0,z0] t (0,0))):
 (((W.setCell ⟨g,0,none⟩ x).setCell ⟨g,1,none⟩ y).setCell ⟨g,2,none⟩ z).heap[g]? =some (.cells #[x,y,z] t (0,0))/\Keep (fun k=>k=g) W (((W.setCell ⟨g,0,none⟩ x).setCell ⟨g,1,none⟩ y).setCell ⟨g,2,none⟩ z):=by
 have K1:=Keep.of_setCell W ⟨g,0,none⟩ x;have K2:=Keep.of_setCell (W.setCell ⟨g,0,none⟩ x) ⟨g,1,none⟩ y;have K3:=Keep.of_setCell ((W.setCell ⟨g,0,none⟩ x).setCell ⟨g,1,none⟩ y) ⟨g,2,none⟩ z;have n1:=heap_setCell_same W g 0 _ _ x h;have n2:=heap_setCell_same (W.setCell ⟨g,0,none⟩ x) g 1 _ _ y n1;have n3:=heap_setCell_same ((W.setCell ⟨g,0,none⟩ x).setCell ⟨g,1,none⟩ y) g 2 _ _ z n2;exact⟨by simpa using n3,(K1.trans K2 (fun _ _ q=>q)).trans K3 (fun _ _ q=>q)⟩
theorem YaI {tmps:Array Value}{g:Nat}{V:World}{x y z u:Value}(t2:tmps[2]? =some (.pointer (some ⟨g,0,none⟩)))(t3:tmps[3]? =some u)
 (h:V.heap[g]? =some (.cells #[x,y,z] 223 (0,0))):(results Tryz.f190 tmps).run Tryz.prog V= .ok (.tuple #[.agg #[x,y,z],u]) V:=by
 have c0:V.cell? ⟨g,0,none⟩=some x:=by simp[World.cell?,h]
 have c1:V.cell? ⟨g,1,none⟩=some y:=by simp[World.cell?,h]
 have c2:V.cell? ⟨g,2,none⟩=some z:=by simp[World.cell?,h]
 simp[results,Tryz.f190,go_sem,t2,t3,c0,c1,c2]
theorem Yl4:J3:=by
 intro s w hs;have hb0:=below_alloc1 w (.cells #[.int .i64 0,.string ⟨#[]⟩,.slice none 0 0] 223);by_cases h2:2<=s.size
 ·have l0:decide ((s.size:Int)<2)=false:=Zf;have l1:decide (1<s.size)=true:=Zt;have hB:=Je (s:=s) (i:=1) Zo;have HB:=Zh hB;by_cases h46:bt s 1=46
  ·have hx:(((s[1]'Zo).toNat:Int) != 46)=false:=by rw[hB]; simpa using h46
   have hC:=fun w=>Yqq s Zo w;cases hst:steB (bt s 0) with
   |
    true=>
    have hP:=Yl3 s h2 h46 hst;obtain⟨x,hx1,hx2,hx3,hI⟩:=Yra s Zo hst w;rw[hst] at hC;have hV:Hid (varV s=if YF s=true then .agg #[.int .i64 (JS (bt s 0)),.string (s.extract 2 s.size),.slice none 0 0] else .agg #[.int .i64 0,.string ⟨#[]⟩,.slice none 0 0]):=Zh rfl;rw[<-hx1] at hP hV;rw[hP] at hV⊢;have HR:=fun w=>Yh3 (5+x) (s.extract 2 s.size) none 0 0 w (by rw[ext_size]; omega);generalize Yq (5+x) (s.extract 2 s.size) 0=R at HR hV⊢;clear hP hB h46 hst hx1;go_enter Tryz.func190,Tryz.ntmps190;go_wp2_with fail;refine(hC _).mono ?_;rintro e w1 ⟨rfl,rfl⟩;clear hC;go_wp2_with fail;have p1:(1:Int)<=(s.size:Int):=Zo;have p2:(2:Int)<=(s.size:Int):=Zo;have wx:IntKind.i64.wrap (5+x)=5+x:=IntWalk.i64_in _ Zo;go_region_law (go_simp; go_at_call 76; refine(hI _).mono ?_; rintro e w1 ⟨rfl,rfl⟩)
    all_goals
     go_wp2_with fail;have n0:((w.alloc (.cells #[.int .i64 0,.string ⟨#[]⟩,.slice none 0 0] 223)).alloc (.cells #[.int .i64 (5+x),.string (s.extract 2 s.size),.slice none 0 0] 223)).drew.heap[w.heap.size]? =some (.cells #[.int .i64 0,.string ⟨#[]⟩,.slice none 0 0] 223 (0,0)):=
      (below_alloc1 _ _).block w.heap.size Zs |>.trans (heap_alloc_new _ _)
     have n1:((w.alloc (.cells #[.int .i64 0,.string ⟨#[]⟩,.slice none 0 0] 223)).alloc (.cells #[.int .i64 (5+x),.string (s.extract 2 s.size),.slice none 0 0] 223)).drew.heap[w.heap.size+1]? =some (.cells #[.int .i64 (5+x),.string (s.extract 2 s.size),.slice none 0 0] 223 (0,0)):=by
      have:=heap_alloc_new (w.alloc (.cells #[.int .i64 0,.string ⟨#[]⟩,.slice none 0 0] 223)) (.cells #[.int .i64 (5+x),.string (s.extract 2 s.size),.slice none 0 0] 223);have ez:(w.alloc (.cells #[.int .i64 0,.string ⟨#[]⟩,.slice none 0 0] 223)).heap.size=w.heap.size+1:=Zs;rw[ez] at this;exact this
     have hb1:Below w.heap.size w ((w.alloc (.cells #[.int .i64 0,.string ⟨#[]⟩,.slice none 0 0] 223)).alloc (.cells #[.int .i64 (5+x),.string (s.extract 2 s.size),.slice none 0 0] 223)).drew:=below_drewN (hb0.trans ((below_alloc1 _ _).mono hb0.size)) 1;refine(HR _).mono ?_;rintro e w2 ⟨rfl,hb2⟩;have m0:=(hb2.block _ (Zg n0).1).trans n0;have m1:=(hb2.block _ (Zg n1).1).trans n1;have hbb:=hb1.trans (hb2.mono hb1.size);clear n0 n1 hb1 hb2 HR hb0;have c0:w2.cell? ⟨w.heap.size,0,none⟩=some (.int .i64 0):=by simp[World.cell?,m0]
     have c1:w2.cell? ⟨w.heap.size,1,none⟩=some (.string ⟨#[]⟩):=by simp[World.cell?,m0]
     have c2:w2.cell? ⟨w.heap.size,2,none⟩=some (.slice none 0 0):=by simp[World.cell?,m0]
     have f0:w2.frozen? ⟨w.heap.size,0,none⟩=false:=by simp[World.frozen?,m0]
     have f1:w2.frozen? ⟨w.heap.size,1,none⟩=false:=by simp[World.frozen?,m0]
     have f2:w2.frozen? ⟨w.heap.size,2,none⟩=false:=by simp[World.frozen?,m0]
     have d0:w2.cell? ⟨w.heap.size+1,0,none⟩=some (.int .i64 (5+x)):=by simp[World.cell?,m1]
     have d1:w2.cell? ⟨w.heap.size+1,1,none⟩=some (.string (s.extract 2 s.size)):=by simp[World.cell?,m1]
     have d2:w2.cell? ⟨w.heap.size+1,2,none⟩=some (.slice none 0 0):=by simp[World.cell?,m1]
     have HM:=Zh (And.intro m0 hbb);clear m0 m1 hbb;cases R with
     |
      true=>
      go_wp2;obtain⟨m0,hbb⟩:=HM.out;obtain⟨q0,qk⟩:=YjN (.int .i64 (5+x)) (.string (s.extract 2 s.size)) (.slice none 0 0) m0;refine bodyPost_ret (YaI rfl rfl q0) rfl ⟨by rw[hV.out]; rfl,hbb.trans (qk.below hbb.size (fun i hi q=>by omega))⟩
     |
      false=>
      go_wp2;obtain⟨m0,hbb⟩:=HM.out;obtain⟨q0,qk⟩:=YjN (.int .i64 0) (.string ⟨#[]⟩) (.slice none 0 0) m0;refine bodyPost_ret (YaI rfl rfl q0) rfl ⟨by rw[hV.out]; rfl,hbb.trans (qk.below hbb.size (fun i hi q=>by omega))⟩
   |
    false=>
    have HX:Hid (YF s=false):=Zh (by unfold YF; rw[hst]; simp);have hV:Hid (varV s= .agg #[.int .i64 0,.string ⟨#[]⟩,.slice none 0 0]):=Zh (by unfold varV; rw[HX.out]; rfl);rw[hst] at hC;have p1:(1:Int)<=(s.size:Int):=Zo;generalize YF s=R at HX⊢;clear hB h46 hst;go_enter Tryz.func190,Tryz.ntmps190;go_wp2_with fail;refine(hC _).mono ?_;rintro e w1 ⟨rfl,rfl⟩;clear hC;go_wp2_with fail;refine bodyPost_ret (YaI rfl rfl (heap_alloc_new w _)) rfl ⟨by rw[hV.out,HX.out]; rfl,hb0⟩
  ·have hx:(((s[1]'Zo).toNat:Int) != 46)=true:=by rw[hB]; simpa using h46
   have HX:Hid (YF s=false):=Zh (by unfold YF; rw[show(bt s 1==46)=false by simpa using h46]; simp);have hV:Hid (varV s= .agg #[.int .i64 0,.string ⟨#[]⟩,.slice none 0 0]):=Zh (by unfold varV; rw[HX.out]; rfl);generalize YF s=R at HX⊢;clear hB h46;go_enter Tryz.func190,Tryz.ntmps190;go_wp2;refine bodyPost_ret (YaI rfl rfl (heap_alloc_new w _)) rfl ⟨by rw[hV.out,HX.out]; rfl,hb0⟩
 ·have l0:decide ((s.size:Int)<2)=true:=Zt;have HX:Hid (YF s=false):=Zh (by unfold YF; rw[decide_eq_false (show ¬3<=s.size by omega)]; simp);have hV:Hid (varV s= .agg #[.int .i64 0,.string ⟨#[]⟩,.slice none 0 0]):=Zh (by unfold varV; rw[HX.out]; rfl);generalize YF s=R at HX⊢;go_enter Tryz.func190,Tryz.ntmps190;go_wp2;refine bodyPost_ret (YaI rfl rfl (heap_alloc_new w _)) rfl ⟨by rw[hV.out,HX.out]; rfl,hb0⟩
end
def Wh (g:List UInt8):Prop:=∀b∈g,b=32\/b=10
theorem YiZ {s:ByteArray}:∀{g:List UInt8} {i:Nat},Wh g->Has s i g->Stop s (i+g.length)->Sk s i (i+g.length)
 |[],_,_,_,hs=>YbZ hs
 |
  b::g,i,hg,h,hs=>by
  obtain⟨h1,h2,h3⟩:=YN.1 h;have e:i+(b::g).length=i+1+g.length:=by simp; omega
  rw[e] at hs⊢;exact YaY h1 (by rw[YaE,h2]; rcases hg b Zs with rfl | rfl<;>decide) Zo (YiZ (fun x hx=>hg x (List.mem_cons_of_mem _ hx)) h3 hs)
theorem YlS {g:List UInt8}(hg:Wh g)(hne:g≠[]){s:ByteArray}{i:Nat}{r:List UInt8}(h:Has s i (g++r)):Ycr s i=false:=by
 match g,hne with
 |
  b::g,_=>
  have h2:=(YN.1 h).2.1;rw[Ya0,YaE,h2];have:Ye4 (b.toNat:Int)=false:=by rcases hg b Zs with rfl | rfl<;>decide
  rw[this,Bool.and_false]
def outT (x:Ti):List UInt8:=(YS x.kind x.text).data.toList
def preW:List (List UInt8×Ti)->List UInt8->List UInt8
 |[],e=>e
 |p::l,e=>p.1++(outT p.2++preW l e)
def Yjm:Bool->List (List UInt8×Ti)->Prop
 |_,[]=>True
 |prev,p::l=>Wh p.1/\(p.1=[]->(prev&&gapK p.2.kind)=false)/\Yjm (gapK p.2.kind) l
theorem Yip (s:ByteArray)(e:List UInt8)(he:Wh e):∀(l:List (List UInt8×Ti)) (prev:Bool) (i:Nat),Yjm prev l->(∀x∈l,chkB x.2.kind x.2.text=0)->Has s i (preW l e)->i+(preW l e).length=s.size->
 (prev=true->Ycr s i=false)/\∀(n:Nat) (sp:List (Nat×Nat)) (acc:List Tk),s.size - i<n->∃m sp',Jd s n i sp acc= .ok (acc++m) sp'/\m.map (fun x=>(x.kind,x.text))=l.map (fun x=>(x.2.kind,x.2.text))
 |
  [],prev,i,_,_,h,hz=>by
  have h:Has s i e:=h;have hz:i+e.length=s.size:=hz;refine⟨fun _=>?_,fun n sp acc hn=>?_⟩
  ·by_cases q:e=[]
   ·subst q;rw[Ya0,decide_eq_false (by simp at hz; omega),Bool.false_and]
   ·exact YlS he q (r:=[]) (by rw[List.append_nil]; exact h)
  ·obtain⟨n,rfl⟩:∃m,n=m+1:=⟨n - 1,by omega⟩;have hk:=YiZ he h (.inl hz);obtain⟨sp',hsp⟩:=hk (s.size+1) Zo sp;refine⟨[],sp',?_,rfl⟩;rw[List.append_nil];exact YgN rfl hsp hz
 |
  (g,x)::l,prev,i,hg,hok,h,hz=>by
  obtain⟨hg1,hg2,hg3⟩:Wh g/\(g=[]->(prev&&gapK x.kind)=false)/\Yjm (gapK x.kind) l:=hg;have h:Has s i (g++((YS x.kind x.text).data.toList++preW l e)):=h;have hz:i+(g++((YS x.kind x.text).data.toList++preW l e)).length=s.size:=hz;rw[List.length_append,List.length_append] at hz;have hx:chkB x.kind x.text=0:=hok (g,x) Zs;obtain⟨b,r,hbr,hs1,hs2⟩:=YhE hx;obtain⟨h1,h2⟩:=YdT.1 h;obtain⟨h3,h4⟩:=YdT.1 h2;have htz:(YS x.kind x.text).data.toList.length=(YS x.kind x.text).size:=Array.length_toList;have htp:1<=(YS x.kind x.text).size:=by rw[<-htz,hbr]; simp
  have hbj:bu s (i+g.length)=b:=by rw[hbr] at h3; exact(YN.1 h3).2.1
  rw[htz] at h4 hz;have ih:=Yip s e he l (gapK x.kind) _ hg3 (fun y hy=>hok y (List.mem_cons_of_mem _ hy)) h4 Zo;refine⟨fun hp=>?_,fun n sp acc hn=>?_⟩
  ·by_cases q:g=[]
   ·subst q;have hgk:=hg2 rfl;rw[hp,Bool.true_and] at hgk;rw[List.length_nil,Nat.add_zero] at hbj;rw[Ya0,YaE,hbj,hs2 hgk,Bool.and_false]
   ·exact YlS hg1 q h
  ·obtain⟨n,rfl⟩:∃m,n=m+1:=⟨n - 1,by omega⟩;have hj:i+g.length<s.size:=Zo;have hk:=YiZ hg1 h1 (.inr ⟨hj,by rw[YaE,hbj]; exact hs1⟩);obtain⟨sp',hsp⟩:=hk (s.size+1) Zo sp;have ht:=YjQ hj hx h3 ih.1;obtain⟨m,sp2,hm,hq⟩:=ih.2 n sp' (acc++[⟨x.kind,x.text,i+g.length⟩]) Zo;refine⟨⟨x.kind,x.text,i+g.length⟩::m,sp2,?_,?_⟩
   ·rw[<-YeE rfl hsp Zo ht,hm];simp
   ·simp[hq]
theorem Ymz {s:ByteArray}{l:List (List UInt8×Ti)}{e:List UInt8}(hz:s.size<=40000)(hg:Yjm false l)(he:Wh e)(hok:∀x∈l,chkB x.2.kind x.2.text=0)(h:s.data.toList=preW l e):
 ∃m sp,Jr s= .ok m sp/\m.map (fun x=>(x.kind,x.text))=l.map (fun x=>(x.2.kind,x.2.text)):=by
 have hl:s.data.toList.length=s.size:=Array.length_toList;have hh:Has s 0 (preW l e):=by unfold Has; rw[List.drop_zero,h]; exact List.prefix_refl _
 obtain⟨m,sp,h1,h2⟩:=(Yip s e he l false 0 hg hok hh (by rw[<-h]; omega)).2 (s.size+1) [] [] Zo;refine⟨m,sp,?_,h2⟩;unfold Jr;rw[if_neg Zo,h1,List.nil_append]
def catT (w:List Ti):List UInt8:=w.flatMap outT
def adjT:List Ti->Prop
 |x::y::l=>(gapK x.kind&&gapK y.kind)=false/\adjT (y::l)
 |_=>True
structure WOk (w:List Ti):Prop where
 ne:w≠[]
 adj:adjT w
 ok:∀x∈w,chkB x.kind x.text=0
def YiX:List UInt8×List Ti->List (List UInt8×Ti)
 |(_,[])=>[]
 |(g,x::l)=>(g,x)::l.map fun y=>([],y)
def Yeh (ws:List (List UInt8×List Ti)):List UInt8:=ws.flatMap fun p=>p.1++catT p.2
def YhD (ws:List (List UInt8×List Ti)):List Ti:=ws.flatMap fun p=>p.2
def Yfh:Bool->List (List UInt8×List Ti)->Prop
 |_,[]=>True
 |first,p::l=>Wh p.1/\(first=false->p.1≠[])/\WOk p.2/\Yfh false l
theorem YmO (e:List UInt8)(r:List (List UInt8×Ti)):∀l:List Ti,preW ((l.map fun y=>([],y))++r) e=catT l++preW r e
 |[]=>rfl
 |
  x::l=>by
  show[]++(outT x++preW ((l.map fun y=>([],y))++r) e)=_;rw[YmO e r l];simp[catT]
theorem Yic (e:List UInt8):∀(ws:List (List UInt8×List Ti)) (first:Bool),Yfh first ws->preW (ws.flatMap YiX) e=Yeh ws++e
 |[],_,_=>rfl
 |
  (g,w)::ws,first,h=>by
  obtain⟨_,_,h3,h4⟩:=h;have ih:=Yic e ws false h4;match w,h3.ne with
  |
   x::l,_=>
   show g++(outT x++preW ((l.map fun y=>([],y))++ws.flatMap YiX) e)=_;rw[YmO,ih];simp[Yeh,catT]
theorem Yne {r:List (List UInt8×Ti)}:∀(l:List Ti) (x:Ti),adjT (x::l)->(∀prev,Yjm prev r)->Yjm (gapK x.kind) ((l.map fun y=>([],y))++r)
 |[],x,_,hr=>hr _
 |y::l,x,h,hr=>⟨(fun b hb=>by cases hb),fun _=>h.1,Yne l y h.2 hr⟩
theorem Yio:∀(ws:List (List UInt8×List Ti)) (first prev:Bool),Yfh first ws->(first=true->prev=false)->Yjm prev (ws.flatMap YiX)
 |[],_,_,_,_=>trivial
 |
  (g,w)::ws,first,prev,h,hp=>by
  obtain⟨h1,h2,h3,h4⟩:=h;match w,h3.ne,h3.adj with
  |
   x::l,_,ha=>
   refine⟨h1,fun q=>?_,Yne l x ha fun p=>Yio ws false p h4 (fun q=>by cases q)⟩;cases first with
   |true=>rw[hp rfl]; rfl
   |false=>exact absurd q (h2 rfl)
theorem Yg9:∀ws:List (List UInt8×List Ti),(ws.flatMap YiX).map (fun x=>(x.2.kind,x.2.text))=(YhD ws).map fun x=>(x.kind,x.text)
 |[]=>rfl
 |
  (g,[])::ws=>by
  have:=Yg9 ws;simpa[YhD,YiX] using this
 |
  (g,x::l)::ws=>by
  have:=Yg9 ws;simp only[YhD] at this;simp[YhD,YiX,this]
theorem Ylf {s:ByteArray}{ws:List (List UInt8×List Ti)}{e:List UInt8}(hz:s.size<=40000)(hg:Yfh true ws)(he:Wh e)(h:s.data.toList=Yeh ws++e):
 ∃m sp,Jr s= .ok m sp/\m.map (fun x=>(x.kind,x.text))=(YhD ws).map fun x=>(x.kind,x.text):=by
 have hok:∀(ws:List (List UInt8×List Ti)) (first:Bool),Yfh first ws->∀x∈ws.flatMap YiX,chkB x.2.kind x.2.text=0:=by
  intro ws;induction ws with
  |nil=>intro _ _ x hx; simp at hx
  |
   cons p ws ih=>
   intro first hg x hx
   obtain⟨_,_,h3,h4⟩:=hg;rw[List.flatMap_cons,List.mem_append] at hx;rcases hx with hx | hx
   ·obtain⟨g,w⟩:=p;match w,hx with
    |
     y::l,hx=>
     have:x.2∈y::l:=by
      rcases List.mem_cons.1 hx with rfl | hx
      ·simp
      ·obtain⟨z,hz,rfl⟩:=List.mem_map.1 hx;exact List.mem_cons_of_mem _ hz
     exact h3.ok _ this
   ·exact ih false h4 x hx
 obtain⟨m,sp,h1,h2⟩:=Ymz hz (Yio ws true false hg (fun _=>rfl)) he (hok ws true hg) (h.trans (Yic e ws true hg).symm);exact⟨m,sp,h1,h2.trans (Yg9 ws)⟩
def u8o:Obj->Bool
 |.cells _ t _=>t==5
 |_=>false
structure YP (B b:Nat)(w w':World):Prop where
 below:Below B w w'
 same:∀k o,w.heap[k]? =some o->k≠b->u8o o=false->w'.heap[k]? =some o
section
variable {B b:Nat}{w w' w1 w2:World}
theorem YP.refl (B b:Nat)(w:World):YP B b w w:=⟨Below.refl B w,fun _ _ h _ _=>h⟩
theorem YP.trans (h:YP B b w w1)(k:YP B b w1 w2):YP B b w w2:=⟨h.below.trans k.below,fun i o hi hb ho=>k.same i o (h.same i o hi hb ho) hb ho⟩
theorem YP.of_below (h:Below w.heap.size w w')(hB:B<=w.heap.size):YP B b w w':=⟨h.mono hB,fun i _ hi _ _=>(h.block i (Zg hi).1).trans hi⟩
theorem YP.alloc (hB:B<=w.heap.size)(o:Obj):YP B b w (w.alloc o):=YP.of_below (below_alloc1 w o) hB
theorem YP.set (hb:B<=b)(i:Nat)(v:Value):YP B b w (w.setCell ⟨b,i,none⟩ v):=⟨(Below.refl B w).setCell (p:=⟨b,i,none⟩) hb v,fun k o hk hne _=>(Below.heap_setCell _ _ _ _ (by simpa using hne)).trans hk⟩
theorem YP.grown {row:Option Nat}(hg:w.grownBy w' row)(hB:B<=w.heap.size)(hr:∀k,row=some k->B<=k/\∀o,w.heap[k]? =some o->u8o o=true):YP B b w w':=
 ⟨(Below.refl B w).grown hg hB (fun k e=>(hr k e).1),fun k o hk _ ho=>(hg.block k (Zg hk).1 (fun e=>by have:=(hr k e.symm).2 o hk; rw[ho] at this; cases this)).trans hk⟩
theorem YP.size (h:YP B b w w'):w.heap.size<=w'.heap.size:=h.below.size
theorem YP.cells (h:YP B b w w'){k:Nat}{cs:Array Value}{t:TypeId}{fr:Nat×Nat}(hk:w.heap[k]? =some (.cells cs t fr))(hb:k≠b)(ht:(t==5)=false):w'.heap[k]? =some (.cells cs t fr):=h.same k _ hk hb ht
end
theorem YpG {B n:Nat}{v:Value}{xs:List Value}{w:World}(h:w.ownsRow B 5 1 v n xs):∀k,v.ownBlock=some k->B<=k/\∀o,w.heap[k]? =some o->u8o o=true:=by
 intro k hk;rcases h.2 with⟨rfl,_⟩ | ⟨g,cap,cur,rfl,hB,hg,_⟩
 ·cases hk
 ·have e:g=k:=by simpa[Value.ownBlock] using hk
  subst e;refine⟨hB,fun o ho=>?_⟩;rw[hg] at ho;cases ho;rfl
theorem YpR (B b:Nat)(bs:List Value)(w:World)(h:IsB B b bs w):
 Calls Tryz.prog 129 #[.pointer (some ⟨b,0,none⟩)] w fun e w'=>e= .returned (.tuple #[])/\(YlK B b bs w'/\YP B b w w'):=by
 rcases h with h | h
 ·exact(YdW b w h.cell0 h.shape h.frozen0).mono fun e w' q=>⟨q.1,by rw[q.2]; exact⟨h.used _,YP.set h.1 0 _⟩⟩
 ·exact(Yfq b w h.cell0).mono fun e w' q=>⟨q.1,by rw[q.2]; exact⟨h,YP.refl B b _⟩⟩
theorem J1 (B b:Nat)(bs:List Value)(s:ByteArray)(w:World)(h:IsB B b bs w)(hlen:bs.length+s.size<=140737488355328)(hBw:B<=w.heap.size):
 Calls Tryz.prog 83 #[.pointer (some ⟨b,0,none⟩),.string s] w fun e w'=>e= .returned (.tuple #[.int .i64 s.size,.nilIface])/\(YlK B b (bs++Lib.strCells s) w'/\YP B b w w'):=by
 obtain⟨i0,hi,hz0,hz1,hz2⟩:=info_parts Yfe;go_enter Tryz.func83,Tryz.ntmps83;go_wp2_with fail;refine(YpR B b bs _ h).mono ?_;rintro e w1 ⟨rfl,h1,hb1⟩;obtain⟨hB,v,hbk,hown,hne⟩:=h1;have c0:w1.cell? ⟨b,0,none⟩=some (.pointer (some ⟨b,0,none⟩)):=by simp[World.cell?,hbk]
 have c1:w1.cell? ⟨b,1,none⟩=some v:=by simp[World.cell?,hbk]
 have hsz:=hb1.size;go_wp2_with (at_builtin; refine Lib.wpList_append_own_string _ rfl _ _ 129 9 rfl B 5 i0 Tryz.underlying129 Tryz.underlying9 hi hz0 hz1 hz2 _ _ _ rfl hown s rfl (by unfold maxLen; omega) Zo Zo ?_);intro v' w2 hown' hgrow _;have hlt:b<w1.heap.size:=(Zg hbk).1;have hb2:=(hgrow.block b hlt (fun e=>hne e.symm)).trans hbk;have d0:w2.cell? ⟨b,0,none⟩=some (.pointer (some ⟨b,0,none⟩)):=by simp[World.cell?,hb2]
 have d1:w2.cell? ⟨b,1,none⟩=some v:=by simp[World.cell?,hb2]
 have f1:w2.frozen? ⟨b,1,none⟩=false:=by simp[World.frozen?,hb2]
 obtain⟨ao,n',cap,rfl⟩:∃ao n' cap,v'= .slice ao n' cap:=by
  rcases hown'.2 with⟨hv,_⟩ | ⟨g,cap,cur,hv,_⟩
  ·exact⟨_,_,_,hv⟩
  ·exact⟨_,_,_,hv⟩
 go_wp2;go_ret2
 refine⟨rfl,?_,?_⟩
 ·exact Lib.BuilderAt.put (T:=142) (e:=5) hB hb2 (bs':=bs++Lib.strCells s) (by simpa[Lib.strCells_length] using hown') Zd
 ·exact(hb1.trans (YP.grown hgrow Zo (YpG hown))).trans (YP.set hB 1 _)
theorem Y5 (B b:Nat)(bs:List Value)(c:Int)(w:World)(h:IsB B b bs w)(hlen:bs.length+1<=140737488355328)(hBw:B<=w.heap.size):
 Calls Tryz.prog 82 #[.pointer (some ⟨b,0,none⟩),.int .u8 c] w fun e w'=>e= .returned .nilIface/\(YlK B b (bs++[.int .u8 c]) w'/\YP B b w w'):=by
 obtain⟨i0,hi,hz0,hz1,hz2⟩:=info_parts Yfe;go_enter Tryz.func82,Tryz.ntmps82;go_wp2_with fail;refine(YpR B b bs _ h).mono ?_;rintro e w1 ⟨rfl,h1,hb1⟩;obtain⟨hB,v,hbk,hown,hne⟩:=h1;have c0:w1.cell? ⟨b,0,none⟩=some (.pointer (some ⟨b,0,none⟩)):=by simp[World.cell?,hbk]
 have c1:w1.cell? ⟨b,1,none⟩=some v:=by simp[World.cell?,hbk]
 have hsz:=hb1.size;go_wp2_with (at_builtin; refine wpList_append_own _ rfl _ _ 129 rfl B 5 i0 (.int .u8 0) 1 1 Tryz.underlying129 hi hz0 hz1 hz2 rfl Zd _ _ _ rfl (hown.alloc _) ⟨w1.heap.size,0,none⟩ 1 1 [.int .u8 c] rfl rfl (World.news_of_block (cs:=#[.int .u8 c]) (t:=5) (fr:=(0,0)) (heap_alloc_new _ _)) (by simp[Value.oneCell']) (by unfold maxLen; omega) Zo (by simp<;>omega) ?_);intro v' w2 hown' hgrow _;have hlt:b<w1.heap.size:=(Zg hbk).1;have hb2:=(hgrow.block b (by simp; omega) (fun e=>hne e.symm)).trans ((Below.heap_alloc _ _ b hlt).trans hbk);have d0:w2.cell? ⟨b,0,none⟩=some (.pointer (some ⟨b,0,none⟩)):=by simp[World.cell?,hb2]
 have d1:w2.cell? ⟨b,1,none⟩=some v:=by simp[World.cell?,hb2]
 have f1:w2.frozen? ⟨b,1,none⟩=false:=by simp[World.frozen?,hb2]
 obtain⟨ao,n',cap,rfl⟩:∃ao n' cap,v'= .slice ao n' cap:=by
  rcases hown'.2 with⟨hv,_⟩ | ⟨g,cap,cur,hv,_⟩
  ·exact⟨_,_,_,hv⟩
  ·exact⟨_,_,_,hv⟩
 go_wp2;go_ret;refine⟨rfl,?_,?_⟩
 ·exact Lib.BuilderAt.put (T:=142) (e:=5) hB hb2 (bs':=bs++[.int .u8 c]) (by simpa using hown') Zd
 ·exact((hb1.trans (YP.alloc Zo _)).trans (YP.grown hgrow (by simp; omega) (YpG (hown.alloc _)))).trans (YP.set hB 1 _)
theorem Yns {B b:Nat}{bs:List Value}{w w':World}(h:IsB B b bs w)(hb:Below w.heap.size w w'):IsB B b bs w':=by
 have go:∀p,Lib.BuilderAt 142 5 B b p bs w->Lib.BuilderAt 142 5 B b p bs w':=by
  rintro p ⟨hB,v,hbk,hown,hne⟩;exact⟨hB,v,(hb.block _ (Zg hbk).1).trans hbk,(Keep.of_below (S:=fun _=>False) hb).owns hown (fun _ _ q=>q),hne⟩
 exact h.imp (go _) (go _)
theorem YnT (x:Nat)(h:x<256):JI[x]? =some (.int .i64 (cls x)):=by
 have:=YcM ⟨#[]⟩ 0 Zo;have:∀i:Fin 256,(match JI[i.val]? with | some (.int .i64 v)=>decide (v=cls i.val) | _=>false)=true:=by decide+kernel
 have h2:=this ⟨x,h⟩;dsimp only at h2;split at h2
 ·rename_i v hv
  rw[hv]; simp at h2; rw[h2]
 ·cases h2
theorem YnP (x:Nat)(h:x<256)(v:Int)(hv:JI[x]? =some (.int .i64 v))(w:World):(Instr.index 130 (.agg JI) (.int .u8 x)).run Tryz.prog w= .ok (.int .i64 v) w:=by
 have hu:=run_underlying (P:=Tryz.prog) (w:=w) Tryz.underlying130;have hs:(sizeOf 3).run Tryz.prog w= .ok 1 w:=by kernel_rfl
 simp[Instr.index,hu,hs,asIntOf,Sem.run_bind,part,hv,go_sem];intro q; omega
def apartB (k:Int):Bool:=[3,4,5,7].contains k
theorem YiQ (kind:Int)(text:ByteArray)(a:Int)(w:World):
 Calls Tryz.prog 79 #[.agg #[.int .i64 kind,.string text,.int .i64 a]] w fun e w'=>e= .returned (.bool (apartB kind))/\Below w.heap.size w w':=by
 go_enter Tryz.func79,Tryz.ntmps79;go_wp2_with fail;have hn:=heap_alloc_new (w.alloc (.cells #[.int .i64 kind,.string text,.int .i64 a] 136)) (.cells #[.int .i64 3,.int .i64 4,.int .i64 5,.int .i64 7] 3);rw[World.size_alloc] at hn;have hbW:Below w.heap.size w ((w.alloc (.cells #[.int .i64 kind,.string text,.int .i64 a] 136)).alloc (.cells #[.int .i64 3,.int .i64 4,.int .i64 5,.int .i64 7] 3)):=(below_alloc1 _ _).alloc Zs _;refine(Tryz.slices_Contains_int (w.heap.size+1) 0 4 4 [3,4,5,7] kind _ Zs Zd (fun j hj=>?_)).mono ?_
 ·generalize World.alloc _ _=U at hn⊢;match j,hj with
  |0,_=>simp[World.cell?,hn]
  |1,_=>simp[World.cell?,hn]
  |2,_=>simp[World.cell?,hn]
  |3,_=>simp[World.cell?,hn]
  |j+4,hj=>simp at hj; omega
 rintro e w1 ⟨rfl,rfl⟩;go_wp2_with fail;go_ret;refine⟨?_,hbW⟩;have e:(decide (kind=3)||(decide (kind=4)||(decide (kind=5)||decide (kind=7))))=apartB kind:=by
  unfold apartB;rw[Bool.eq_iff_iff];simp
 rw[<-e]; rfl
end Go.Proofs.YteamjdmhdfjopaaGreatDoor
