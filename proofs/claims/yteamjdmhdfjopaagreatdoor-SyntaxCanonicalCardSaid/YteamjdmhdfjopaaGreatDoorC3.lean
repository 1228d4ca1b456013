/- A part of the proof; it holds the texts Leaf Run (names and blanks shortened). -/
import Derived.Test.YteamjdmhdfjopaaGreatDoorProg
import Derived.Test.YteamjdmhdfjopaaGreatDoorC2
import Derived.Test.YteamjdmhdfjopaaGreatDoorC1
import Derived.Test.YteamjdmhdfjopaaGreatDoorCS
namespace Go.Proofs.YteamjdmhdfjopaaGreatDoor
open Go.RowKit
set_option maxRecDepth 100000
set_option maxHeartbeats 8000000
set_option linter.unusedVariables false
set_option linter.unusedSimpArgs false
theorem Yg3 {k:IntKind}{a b:Int}(h:a=b):Ending.returned (.int k a)= .returned (.int k b):=by rw[h]
theorem YB (c:Int)(h0:0<=c)(h1:c<=255)(w:World):
 Calls Tryz.prog 237 #[.int .u8 c] w fun e w'=>e= .returned (.tuple #[.int .u8 ((hexv c).getD 0),.bool (hexv c).isSome])/\w'=w:=by
 have H:Hid (hexv c=if 48<=c/\c<=57 then some (c - 48) else if 97<=c/\c<=102 then some (c - 87) else if 65<=c/\c<=70 then some (c - 55) else none):=rfl;generalize hexv c=x at*;go_enter Tryz.func237,Tryz.ntmps237;go_wp2;all_goals go_ret2
 all_goals
  have H2:=H.out;refine⟨?_,rfl⟩;first
  |rw[if_pos Zo] at H2; subst H2; simp; done
  |rw[if_neg Zo,if_pos Zo] at H2; subst H2; simp; omega
  |rw[if_neg Zo,if_neg Zo,if_pos Zo] at H2; subst H2; simp; omega
  |rw[if_neg Zo,if_neg Zo,if_neg Zo] at H2; subst H2; simp; done
def YaA (s:ByteArray)(at_:Nat)(sp:Value)(i:Nat):Value:=
 if i=0 then .string s else if i=1 then .int .i64 at_ else if i<258 then .int .i64 (cls (i - 2)) else sp
def Yw (b:Nat)(s:ByteArray)(at_:Nat)(sp:Value)(w:World):Prop:=w.rowIs b 133 259 (YaA s at_ sp)
section
variable {b:Nat}{s:ByteArray}{at_:Nat}{sp:Value}{w:World}
theorem Yw.c0 (h:Yw b s at_ sp w):w.cell? ⟨b,0,none⟩=some (.string s):=World.rowIs.cell h Zo
theorem Yw.c1 (h:Yw b s at_ sp w):w.cell? ⟨b,1,none⟩=some (.int .i64 at_):=World.rowIs.cell h Zo
theorem Yw.c2 (h:Yw b s at_ sp w)(j:Nat)(hj:j<256):w.cell? ⟨b,2+j,none⟩=some (.int .i64 (cls j)):=
 (World.rowIs.cell h Zo).trans (by unfold YaA; rw[if_neg Zo,if_neg Zo,if_pos Zo,show 2+j - 2=j by omega])
theorem Yw.c3 (h:Yw b s at_ sp w):w.cell? ⟨b,258,none⟩=some sp:=World.rowIs.cell h Zo
theorem Yw.frozen (h:Yw b s at_ sp w)(i:Nat):w.frozen? ⟨b,i,none⟩=false:=World.rowIs.frozen h i
theorem Yw.drewN (h:Yw b s at_ sp w)(k:Nat):Yw b s at_ sp (w.drewN k):=h
theorem Yw.set1 (h:Yw b s at_ sp w)(at':Nat):Yw b s at' sp (w.setCell ⟨b,1,none⟩ (.int .i64 at')):=
 (World.rowIs.set h 1 _).congr (fun i _=>by unfold YaA; by_cases h1:i=1<;>simp[h1])
theorem Yw.set3 (h:Yw b s at_ sp w)(sp':Value):Yw b s at_ sp' (w.setCell ⟨b,258,none⟩ sp'):=
 (World.rowIs.set h 258 _).congr (fun i hi=>by
   unfold YaA;by_cases h1:i=258
   ·subst h1; simp
   ·rw[if_neg h1]; repeat' split
    all_goals first | rfl | omega)
theorem Yw.lt (h:Yw b s at_ sp w):b<w.heap.size:=World.rowIs.lt h
end
theorem next_any (b:Nat)(s:ByteArray)(at_ n:Nat)(sp:Value)(w:World)(h1:at_<=40000)(n1:n<=10)(hw:Yw b s at_ sp w):
 Calls Tryz.prog 211 #[.pointer (some ⟨b,0,none⟩),.int .i64 n] w fun e w'=>e= .returned (.int .u8 (bt s (at_+n)))/\∃k,w'=w.drewN k:=by
 have hc0:=hw.c0;have hc1:=hw.c1;clear hw;have hp:(0:Int)<=at_+n:=Zo;have hw:IntKind.i64.wrap ((at_:Int)+n)=at_+n:=IntWalk.i64_in _ Zo;have ht:((at_:Int)+n).toNat=at_+n:=Zo;by_cases hlt:at_+n<s.size
 ·have hl:((at_:Int)+n)<s.size:=by omega
  have hl2:decide ((at_:Int)+n<s.size)=true:=decide_eq_true hl;have hb:=Je hlt;have HB:Hid (((s[at_+n]'hlt).toNat:Int)=bt s (at_+n)):=hb;clear hb;go_enter Tryz.func211,Tryz.ntmps211;go_wp2;go_quiet (fail)
  go_wp2;go_quiet (fail)
  go_wp2;go_ret;exact⟨Yg3 HB.out,_,World.drewN_drewN _ _ _⟩
 ·have hl2:decide ((at_:Int)+n<s.size)=false:=Zf;have HB:Hid (bt s (at_+n)=0):=Jp Zo;go_enter Tryz.func211,Tryz.ntmps211;go_wp2;go_quiet (fail)
  go_wp2;go_ret;exact⟨Yg3 HB.out.symm,_,rfl⟩
theorem Yhb {s:ByteArray}{p:Int->Bool}{k m:Nat}(h:Hid (Yf s p k=Yf s p m))(hk:k<s.size)(hp:p (bt s k)=true):Hid (Yf s p (k+1)=Yf s p m):=
 (YE hk hp).symm.trans h
theorem Yhf {more:ByteArray}{x:Nat}{c v ix:Int}(hb:(x:Int)=c)(hv:cls x=v)(hi:Lib.indexByte more.data.toList (x:Int).toNat.toUInt8=ix):
 inner more c=(v==2||v==3||decide (0<=ix)):=by subst hb hv hi; rfl
theorem Yiu (more:ByteArray){x:Nat}{c v:Int}(hb:(x:Int)=c)(hv:cls x=v)(h:(v==2||v==3)=true):inner more c=true:=by
 rw[Yhf hb hv rfl,h]; rfl
theorem Yqn {w wr:World}{b:Nat}{s:ByteArray}{at_:Nat}{sp:Value}(h:Hid (∃d,wr=w.drewN d))(hw:Yw b s at_ sp w):Yw b s at_ sp wr:=by
 obtain⟨d,rfl⟩:=h; exact hw.drewN d
theorem YcR {w wr:World}{n:Nat}(h:Hid (∃d,wr=w.drewN d)):∃d,wr.drewN n=w.drewN d:=by
 obtain⟨d,rfl⟩:=h; exact⟨_,World.drewN_drewN _ _ _⟩
theorem run_any (b:Nat)(s more:ByteArray)(at_ from_:Nat)(sp:Value)(w:World)(hs:s.size<=40000)(h1:from_<=s.size)(hw:Yw b s at_ sp w):
 Calls Tryz.prog 136 #[.pointer (some ⟨b,0,none⟩),.int .i64 from_,.string more] w fun e w'=>e= .returned (.int .i64 (Yf s (inner more) from_))/\∃k,w'=w.drewN k:=by
 go_enter Tryz.func136,Tryz.ntmps136;go_wp2;go_loopw [1] (fun i wr=>∃k:Nat,k<=s.size/\i= .int .i64 k/\Hid (Yf s (inner more) k=Yf s (inner more) from_)/\Hid (∃d,wr=w.drewN d)) (fun i _=>s.size - (intOf i).toNat)
 case atStart=>exact⟨from_,h1,rfl,rfl,⟨0,rfl⟩⟩
 case round=>
  obtain⟨k,hk,rfl,hR,hQ⟩:=hrel;have hwr:=Yqn hQ hw;have hc0:=hwr.c0;by_cases hlt:k<s.size
  ·have hl:decide (k<s.size)=true:=by simpa using hlt
   have hx1:(s[k]'hlt).toNat<256:=(s[k]).toNat_lt;have hb:=Je hlt;have hc2:=hwr.c2 (s[k]'hlt).toNat hx1;have HB:Hid (((s[k]'hlt).toNat:Int)=bt s k):=hb;clear hb;generalize hv:cls (s[k]'hlt).toNat=v at hc2;have HV:=Zh hv;clear hv;by_cases e2:v=2
   ·subst e2;go_wp2;go_quiet (fail)
    go_wp2;go_roundw
    case rel=>exact⟨k+1,by omega,by go_num,Yhb hR hlt (Yiu more HB.out HV.out Zd),YcR hQ⟩
    case measure=>simp[intOf]; omega
   ·have n2:(v==2)=false:=by simpa using e2
    by_cases e3:v=3
    ·subst e3;go_wp2;go_quiet (fail)
     go_wp2;go_roundw
     case rel=>exact⟨k+1,by omega,by go_num,Yhb hR hlt (Yiu more HB.out HV.out Zd),YcR hQ⟩
     case measure=>simp[intOf]; omega
    ·have n3:(v==3)=false:=by simpa using e3
     clear e2 e3;have hI:=fun w=>Tryz.strings_IndexByte more ((s[k]'hlt).toNat:Int) w;generalize hix:Lib.indexByte more.data.toList ((s[k]'hlt).toNat:Int).toNat.toUInt8=ix at hI;have HI:=Zh hix;clear hix;by_cases h0:0<=ix
     ·go_wp2;go_quiet ((go_at_call 87; exact Calls.quiet_of_same (hI _)))
      go_wp2;go_roundw
      case rel=>exact⟨k+1,by omega,by go_num,Yhb hR hlt (by rw[Yhf HB.out HV.out HI.out,decide_eq_true h0]; simp),YcR hQ⟩
      case measure=>simp[intOf]; omega
     ·go_wp2;go_quiet ((go_at_call 87; exact Calls.quiet_of_same (hI _)))
      go_wp2;go_ret;exact⟨Yg3 (by rw[<-hR.out,YD (by rintro⟨_,q⟩; rw[Yhf HB.out HV.out HI.out,n2,n3,Zf] at q; cases q)]),YcR hQ⟩
  ·have hl:decide (k<s.size)=false:=by simpa using hlt
   go_wp2;go_quiet (fail)
   go_wp2;go_ret;exact⟨Yg3 (by rw[<-hR.out,YD Zo]),YcR hQ⟩
end Go.Proofs.YteamjdmhdfjopaaGreatDoor
