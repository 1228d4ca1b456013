/- A part of the proof; it holds the texts Num Ck (names and blanks shortened). -/
import Derived.Test.YteamjdmhdfjopaaGreatDoorC9
import Derived.Test.YteamjdmhdfjopaaGreatDoorC1
import Derived.Shelf.Strings.SlTrimAscii
import Derived.Test.YteamjdmhdfjopaaGreatDoorC21
import Derived.Test.YteamjdmhdfjopaaGreatDoorC11
namespace Go.Proofs.YteamjdmhdfjopaaGreatDoor
open Go.RowKit
set_option maxRecDepth 100000
set_option maxHeartbeats 8000000
set_option linter.unusedVariables false
set_option linter.unusedSimpArgs false
set_option linter.unnecessarySimpa false
theorem Ypr (d:ByteArray)(w:World)(hs:d.size<=9223372036854775807):
 Calls Tryz.prog 218 #[.string d,.string YdV] w fun e w'=>e= .returned (.string (Yk0 d))/\Below w.heap.size w w':=
 Any.strings_Trim_laid Tryz.lays160 (by kernel_rfl) d YdV w hs Zd (ascii_of_all Zd)
theorem Yao (s:ByteArray)(w:World):
 Calls Tryz.prog 172 #[.string s] w fun e w'=>e= .returned (.bool (Y8 s))/\Below w.heap.size w w':=by
 generalize hR:Y8 s=R;have HR:=Zh hR;clear hR;have hP:Calls Tryz.prog 217 #[.string s,.string YfK] w fun e w'=>e= .returned (.string (numD s))/\w'=w:=Tryz.strings_TrimPrefix s YfK w;have hT:=fun w hs=>Ypr (numD s) w hs;generalize hD:numD s=d at hP hT;have HD:=Zh hD;clear hD;go_enter Tryz.func172,Tryz.ntmps172;go_wp2_with fail;refine hP.mono ?_;rintro e w1 ⟨rfl,rfl⟩;clear hP;go_wp2_with fail
 ·have h0:d.toList=[]:=by assumption
  go_ret;exact⟨by rw[YmW HR.out HD.out (.inl h0)]; rfl,Below.refl _ _⟩
 ·have h0:¬d.toList=[]:=by assumption
  have h1:(d.size:Int)<=500:=by assumption
  have h1:d.size<=500:=Zo;have hlt:0<d.size:=Nat.pos_of_ne_zero (fun e=>h0 (by
   obtain rfl:d=ByteArray.empty:=by simpa using e
   simp))
  have HB:Hid (((d[0]'hlt).toNat:Int)=bt d 0):=Je hlt;refine(hT _ Zo).mono ?_;rintro e w2 ⟨rfl,hb⟩;clear hT;generalize hT:Yk0 d=x;have HT:=Zh hT;clear hT;go_wp2_with fail
  ·have hx:(d.toList.isEmpty=true\/(500:Int)<d.size)\/(!x.toList.isEmpty)=true:=by assumption
   have hx:¬x.toList=[]:=by
    rcases hx with(hx | hx) | hx
    ·exact absurd (by simpa using hx) h0
    ·omega
    ·simpa using hx
   go_ret;exact⟨by rw[YmW HR.out HD.out (.inr (.inr (by rw[HT.out]; exact hx)))]; rfl,hb⟩
  ·have hx:(d.toList.isEmpty=false/\(d.size:Int)<=500)/\(!x.toList.isEmpty)=false:=by assumption
   have hx:x.toList=[]:=by simpa using hx.2
   have hc:((d[0]'hlt).toNat:Int)=48:=by assumption
   go_ret;exact⟨by rw[YmV HR.out HD.out h0 h1 (by rw[HT.out]; exact hx),<-HB.out,hc]; rfl,hb⟩
  ·have hx:(d.toList.isEmpty=false/\(d.size:Int)<=500)/\(!x.toList.isEmpty)=false:=by assumption
   have hx:x.toList=[]:=by simpa using hx.2
   have hc:¬((d[0]'hlt).toNat:Int)=48:=by assumption
   have hc2:(bt d 0 != 48)=true:=by rw[<-HB.out]; simpa using hc
   go_ret;exact⟨by rw[YmV HR.out HD.out h0 h1 (by rw[HT.out]; exact hx),hc2]; rfl,hb⟩
 ·have h1:((500:Int)<d.size):=by first | assumption | omega
  go_ret;exact⟨by rw[YmW HR.out HD.out (.inr (.inl Zo))]; rfl,Below.refl _ _⟩
theorem YjB (text:ByteArray)(a:Int)(w:World)(h1:text.size=1):
 Calls Tryz.prog 127 #[.agg #[.int .i64 6,.string text,.int .i64 a]] w fun e w'=>e= .returned (.int .i64 (chkB 6 text))/\Below w.heap.size w w':=by
 have hlt:0<text.size:=Zo;have hx1:(text[0]'hlt).toNat<256:=(text[0]).toNat_lt;have hcl:=YnT (text[0]'hlt).toNat hx1;have HO:Hid (okB 6 text=(cls (text[0]'hlt).toNat==4)):=Zh (by show(decide (text.size=1)&&_)=_; rw[decide_eq_true h1,Bool.true_and,<-Je hlt]; rfl);have hix:=YnP _ hx1 _ hcl;generalize cls (text[0]'hlt).toNat=v at HO hix hcl;have hs1:(text.size:Int)=1:=Zo;clear hcl;go_enter Tryz.func127,Tryz.ntmps127;go_wp2_with fail;have hc1:(w.alloc (.cells #[.int .i64 6,.string text,.int .i64 a] 136)).cell? ⟨w.heap.size,1,none⟩=some (.string text):=by
  have hT:=heap_alloc_new w (.cells #[.int .i64 6,.string text,.int .i64 a] 136);generalize World.alloc _ _=U at hT⊢;simp[World.cell?,hT]
 have hsz:(w.alloc (.cells #[.int .i64 6,.string text,.int .i64 a] 136)).heap.size=w.heap.size+1:=Zs;have hbW:Below w.heap.size w (w.alloc (.cells #[.int .i64 6,.string text,.int .i64 a] 136)):=below_alloc1 _ _;generalize w.alloc (.cells #[.int .i64 6,.string text,.int .i64 a] 136)=W0 at hc1 hsz hbW⊢;go_region_with ((go_at_call 123; go_loud (refine(YbC _).mono ?_); go_loud (rintro e w1 ⟨rfl,hb⟩); go_loud (have c2:w1.cell? ⟨w.heap.size,1,none⟩=some (.string text):=(hb.cell (p:=⟨w.heap.size,1,none⟩) (by show w.heap.size<W0.heap.size; omega)).trans hc1); go_loud (have hb3:Below w.heap.size w w1:=hbW.drew.trans (hb.mono (by show w.heap.size<=W0.heap.size; omega))); go_loud (clear hb)))
 all_goals go_wp2
 all_goals go_ret
 all_goals (refine⟨?_,hb3⟩; rw[Ycf HO.out]; simp_all)
theorem YjA (text:ByteArray)(a:Int)(w:World):
 Calls Tryz.prog 127 #[.agg #[.int .i64 6,.string text,.int .i64 a]] w fun e w'=>e= .returned (.int .i64 (chkB 6 text))/\Below w.heap.size w w':=by
 by_cases h1:text.size=1
 ·exact YjB text a w h1
 ·have HO:Hid (okB 6 text=false):=Zh (by show(decide (text.size=1)&&_)=_; rw[decide_eq_false h1,Bool.false_and]);have g1:((text.size:Int)==1)=false:=by rw[beq_eq_false_iff_ne]; omega
  go_enter Tryz.func127,Tryz.ntmps127;go_wp2;go_quiet (fail)
  go_wp2;go_ret;exact⟨by rw[Ycf HO.out]; rfl,below_drewN (below_alloc1 w _) _⟩
theorem Yoe (kind:Int)(text:ByteArray)(a:Int)(w:World):
 Calls Tryz.prog 127 #[.agg #[.int .i64 kind,.string text,.int .i64 a]] w fun e w'=>e= .returned (.int .i64 (chkB kind text))/\Below w.heap.size w w':=by
 by_cases k1:kind=1
 ·subst k1;go_enter Tryz.func127,Tryz.ntmps127;go_wp2;go_ret;exact⟨rfl,below_alloc1 w _⟩
 by_cases k2:kind=2
 ·subst k2;have hX:=fun w=>YlL text w;have HO:Hid (okB 2 text=YY text):=rfl;generalize YY text=b at hX HO;clear k1;cases b<;>
  ·go_enter Tryz.func127,Tryz.ntmps127;go_wp2_with (go_at_call 171; refine(hX _).mono ?_; rintro e w1 ⟨rfl,hb⟩);go_ret;exact⟨by rw[Ycf HO.out]; rfl,(below_alloc1 w _).trans (hb.mono Zs)⟩
 by_cases k3:kind=3
 ·subst k3;have hX:=fun w=>YgH text w;have HO:Hid (okB 3 text=YL text):=rfl;generalize YL text=b at hX HO;clear k1 k2;cases b<;>
  ·go_enter Tryz.func127,Tryz.ntmps127;go_wp2_with (go_at_call 99; refine(hX _).mono ?_; rintro e w1 ⟨rfl,hb⟩);go_ret;exact⟨by rw[Ycf HO.out]; rfl,(below_alloc1 w _).trans (hb.mono Zs)⟩
 by_cases k4:kind=4
 ·subst k4;have hX:=fun w=>Yao text w;have HO:Hid (okB 4 text=Y8 text):=rfl;generalize Y8 text=b at hX HO;clear k1 k2 k3;cases b<;>
  ·go_enter Tryz.func127,Tryz.ntmps127;go_wp2_with (go_at_call 172; refine(hX _).mono ?_; rintro e w1 ⟨rfl,hb⟩);go_ret;exact⟨by rw[Ycf HO.out]; rfl,(below_alloc1 w _).trans (hb.mono Zs)⟩
 by_cases k5:kind=5
 ·subst k5;have hX:=fun w=>YfH text w;have HO:Hid (okB 5 text=YF text):=rfl;generalize YF text=b at hX HO;clear k1 k2 k3 k4;cases b<;>
  ·go_enter Tryz.func127,Tryz.ntmps127;go_wp2_with (go_at_call 173; refine(hX _).mono ?_; rintro e w1 ⟨rfl,hb⟩);go_ret;exact⟨by rw[Ycf HO.out]; rfl,(below_alloc1 w _).trans (hb.mono Zs)⟩
 by_cases k6:kind=6
 ·subst k6;clear k1 k2 k3 k4 k5;exact YjA text a w
 by_cases k7:kind=7
 ·subst k7;clear k1 k2 k3 k4 k5 k6;have hX:=fun w=>Ybx text w;have HO:Hid (okB 7 text=YaR text):=rfl;generalize YaR text=b at hX HO;cases b<;>
  ·go_enter Tryz.func127,Tryz.ntmps127;go_wp2_with (go_at_call 174; refine(hX _).mono ?_; rintro e w1 ⟨rfl,rfl⟩);go_ret;exact⟨by rw[Ycf HO.out]; rfl,below_alloc1 w _⟩
 have HO:Hid (okB kind text=false):=Zh (by unfold okB; rw[if_neg k1,if_neg k2,if_neg k3,if_neg k4,if_neg k5,if_neg k6,if_neg k7]);go_enter Tryz.func127,Tryz.ntmps127;go_wp2;go_ret;exact⟨by rw[Ycf HO.out]; rfl,below_alloc1 w _⟩
end Go.Proofs.YteamjdmhdfjopaaGreatDoor
