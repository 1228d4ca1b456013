/- A part of the proof; it holds the texts Num (names and blanks shortened). -/
import Derived.Test.YteamjdmhdfjopaaGreatDoorM9
import Derived.Test.YteamjdmhdfjopaaGreatDoorM1
import Derived.Shelf.Strings.SlTrimAscii
namespace Go.Proofs.YteamjdmhdfjopaaGreatDoor
open Go.RowKit
set_option maxRecDepth 100000
set_option maxHeartbeats 8000000
set_option linter.unusedVariables false
set_option linter.unusedSimpArgs false
theorem YmZ (d:ByteArray)(w:World)(hs:d.size<=9223372036854775807):
 Calls Tryz.prog 218 #[.string d,.string YdL] w fun e w'=>e= .returned (.string (Yjb d))/\Below w.heap.size w w':=
 Any.strings_Trim_laid Tryz.lays160 (by kernel_rfl) d YdL w hs Zd (ascii_of_all Zd)
theorem Ya2 (s:ByteArray)(w:World):
 Calls Tryz.prog 172 #[.string s] w fun e w'=>e= .returned (.bool (JY s))/\Below w.heap.size w w':=by
 generalize hR:JY s=R;have HR:=Zh hR;clear hR;have hP:Calls Tryz.prog 217 #[.string s,.string Yfg] w fun e w'=>e= .returned (.string (numD s))/\w'=w:=Tryz.strings_TrimPrefix s Yfg w;have hT:=fun w hs=>YmZ (numD s) w hs;generalize hD:numD s=d at hP hT;have HD:=Zh hD;clear hD;go_enter Tryz.func172,Tryz.ntmps172;go_wp2_with fail;refine hP.mono ?_;rintro e w1 ⟨rfl,rfl⟩;clear hP;go_wp2_with fail
 ·have h0:d.toList=[]:=by assumption
  go_ret;exact⟨by rw[Yk3 HR.out HD.out (.inl h0)]; rfl,Below.refl _ _⟩
 ·have h0:¬d.toList=[]:=by assumption
  have h1:(d.size:Int)<=500:=by assumption
  have h1:d.size<=500:=Zo;have hlt:0<d.size:=Nat.pos_of_ne_zero (fun e=>h0 (by
   obtain rfl:d=ByteArray.empty:=by simpa using e
   simp))
  have HB:Hid (((d[0]'hlt).toNat:Int)=bt d 0):=Yq hlt;refine(hT _ Zo).mono ?_;rintro e w2 ⟨rfl,hb⟩;clear hT;generalize hT:Yjb d=x;have HT:=Zh hT;clear hT;go_wp2_with fail
  ·have hx:(d.toList.isEmpty=true\/(500:Int)<d.size)\/(!x.toList.isEmpty)=true:=by assumption
   have hx:¬x.toList=[]:=by
    rcases hx with(hx | hx) | hx
    ·exact absurd (by simpa using hx) h0
    ·omega
    ·simpa using hx
   go_ret;exact⟨by rw[Yk3 HR.out HD.out (.inr (.inr (by rw[HT.out]; exact hx)))]; rfl,hb⟩
  ·have hx:(d.toList.isEmpty=false/\(d.size:Int)<=500)/\(!x.toList.isEmpty)=false:=by assumption
   have hx:x.toList=[]:=by simpa using hx.2
   have hc:((d[0]'hlt).toNat:Int)=48:=by assumption
   go_ret;exact⟨by rw[Yk2 HR.out HD.out h0 h1 (by rw[HT.out]; exact hx),<-HB.out,hc]; rfl,hb⟩
  ·have hx:(d.toList.isEmpty=false/\(d.size:Int)<=500)/\(!x.toList.isEmpty)=false:=by assumption
   have hx:x.toList=[]:=by simpa using hx.2
   have hc:¬((d[0]'hlt).toNat:Int)=48:=by assumption
   have hc2:(bt d 0 != 48)=true:=by rw[<-HB.out]; simpa using hc
   go_ret;exact⟨by rw[Yk2 HR.out HD.out h0 h1 (by rw[HT.out]; exact hx),hc2]; rfl,hb⟩
 ·have h1:((500:Int)<d.size):=by first | assumption | omega
  go_ret;exact⟨by rw[Yk3 HR.out HD.out (.inr (.inl Zo))]; rfl,Below.refl _ _⟩
end Go.Proofs.YteamjdmhdfjopaaGreatDoor
