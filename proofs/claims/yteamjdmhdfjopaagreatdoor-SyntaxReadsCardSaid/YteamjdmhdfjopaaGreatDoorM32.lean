/- A part of the proof; it holds the texts Oxa (names and blanks shortened). -/
import Derived.Test.YteamjdmhdfjopaaGreatDoorM31
namespace Go.Proofs.YteamjdmhdfjopaaGreatDoor
open Go.RowKit
set_option maxRecDepth 100000
set_option maxHeartbeats 8000000
set_option linter.unusedVariables false
set_option linter.unusedSimpArgs false
theorem Yny (s:ByteArray)(i:Nat)(w:World)(hs:s.size<=1000000)(hi:i<s.size)(hmk:bt s i=39)(R:TokR)(hR:tokN s i=R):
 Calls Tryz.prog 135 #[.string s,.int .i64 i] w fun e w'=>e= .returned (oneV i R)/\Below w.heap.size w w':=by
 have HR:=Zh hR;clear hR;have hb0:=YB s i;have hb1:=Jk s i;have l2:decide (i<s.size)=true:=decide_eq_true hi;have wi:IntKind.i64.wrap ((i:Int)+1)=i+1:=IntWalk.i64_in _ Zo;have wi2:IntKind.i64.wrap ((i:Int)+2)=i+2:=IntWalk.i64_in _ Zo;have HX:Hid (((s[i]'hi).toNat:Int)=bt s i):=Yq hi;have b39:(((s[i]'hi).toNat:Int)==39)=true:=by rw[HX.out]; exact beq_iff_eq.2 Zo
 have HRQ:Hid (quoR 39 i (quoN s 39 (s.size - i) (i+1) [])=R):=Zh (by have:=Yej HR.out Zo; rwa [hmk] at this);have hQ:=fun w=>YcG s i 39 w hs hi hmk Zo (quoN s 39 (s.size - i) (i+1) []) (s.size - i) Zo rfl;generalize quoN s 39 (s.size - i) (i+1) []=QR at*;clear hmk hb0 hb1;by_cases hi1:i+1<s.size
 ·have l3:decide ((i:Int)+1<(s.size:Int))=true:=Zt;have l4:decide (i+1<s.size)=true:=decide_eq_true hi1;cases QR with
  |
   bad=>
   simp only[quoV] at hQ;go_enter Tryz.func135,Tryz.ntmps135;go_wp2_with fail;generalize hW:World.alloc (World.alloc w _) _=W;obtain⟨hZ,hE,HB,hwz⟩:=Y8 hW;clear hW;refine(hQ _).mono ?_;rintro e w8 ⟨rfl,hb⟩;obtain⟨hZ,hE,HB,hwz⟩:=YY hb hZ hE HB hwz;clear hb;clear hQ;have HD:Hid (R= .bad 41 i):=Zh HRQ.out.symm;go_wp2_with (first | (refine Yay rfl rfl (rTok) rfl rfl hZ rfl (YN _ _ _) ?_) | (refine Yaz rfl rfl (Yf i 41) rfl rfl hE rfl (YJ _ _) ?_));exact Jh rfl rfl rfl rfl rfl hZ hE HB rfl rfl (x:=.int .i64 i) (by rw[HD.out]; rfl)
  |
   ok out fin=>
   simp only[quoV] at hQ;go_enter Tryz.func135,Tryz.ntmps135;go_wp2_with fail;generalize hW:World.alloc (World.alloc w _) _=W;obtain⟨hZ,hE,HB,hwz⟩:=Y8 hW;clear hW;refine(hQ _).mono ?_;rintro e w8 ⟨rfl,hb⟩;obtain⟨hZ,hE,HB,hwz⟩:=YY hb hZ hE HB hwz;clear hb;clear hQ;have g0:decide ((fin:Int)<0)=false:=Zf;have HD:Hid (R= .ok 1 ⟨out.toArray⟩ fin):=Zh HRQ.out.symm;generalize(⟨out.toArray⟩:ByteArray)=T at*;go_wp2_with (first | (refine Yay rfl rfl (Yi 1 T i) rfl rfl hZ rfl (YN _ _ _) ?_) | (refine Yaz rfl rfl (Yf 0 0) rfl rfl hE rfl (YJ _ _) ?_));exact Jh rfl rfl rfl rfl rfl hZ hE HB rfl rfl (x:=.int .i64 fin) (by rw[HD.out]; rfl)
 ·have l3:decide ((i:Int)+1<(s.size:Int))=false:=Zf;cases QR with
  |
   bad=>
   simp only[quoV] at hQ;go_enter Tryz.func135,Tryz.ntmps135;go_wp2_with fail;generalize hW:World.alloc (World.alloc w _) _=W;obtain⟨hZ,hE,HB,hwz⟩:=Y8 hW;clear hW;refine(hQ _).mono ?_;rintro e w8 ⟨rfl,hb⟩;obtain⟨hZ,hE,HB,hwz⟩:=YY hb hZ hE HB hwz;clear hb;clear hQ;have HD:Hid (R= .bad 41 i):=Zh HRQ.out.symm;go_wp2_with (first | (refine Yay rfl rfl (rTok) rfl rfl hZ rfl (YN _ _ _) ?_) | (refine Yaz rfl rfl (Yf i 41) rfl rfl hE rfl (YJ _ _) ?_));exact Jh rfl rfl rfl rfl rfl hZ hE HB rfl rfl (x:=.int .i64 i) (by rw[HD.out]; rfl)
  |
   ok out fin=>
   simp only[quoV] at hQ;go_enter Tryz.func135,Tryz.ntmps135;go_wp2_with fail;generalize hW:World.alloc (World.alloc w _) _=W;obtain⟨hZ,hE,HB,hwz⟩:=Y8 hW;clear hW;refine(hQ _).mono ?_;rintro e w8 ⟨rfl,hb⟩;obtain⟨hZ,hE,HB,hwz⟩:=YY hb hZ hE HB hwz;clear hb;clear hQ;have g0:decide ((fin:Int)<0)=false:=Zf;have HD:Hid (R= .ok 1 ⟨out.toArray⟩ fin):=Zh HRQ.out.symm;generalize(⟨out.toArray⟩:ByteArray)=T at*;go_wp2_with (first | (refine Yay rfl rfl (Yi 1 T i) rfl rfl hZ rfl (YN _ _ _) ?_) | (refine Yaz rfl rfl (Yf 0 0) rfl rfl hE rfl (YJ _ _) ?_));exact Jh rfl rfl rfl rfl rfl hZ hE HB rfl rfl (x:=.int .i64 fin) (by rw[HD.out]; rfl)
theorem Ynz (s:ByteArray)(i:Nat)(w:World)(hs:s.size<=1000000)(hi:i<s.size)(hmk:bt s i=34)(R:TokR)(hR:tokN s i=R):
 Calls Tryz.prog 135 #[.string s,.int .i64 i] w fun e w'=>e= .returned (oneV i R)/\Below w.heap.size w w':=by
 have HR:=Zh hR;clear hR;have hb0:=YB s i;have hb1:=Jk s i;have l2:decide (i<s.size)=true:=decide_eq_true hi;have wi:IntKind.i64.wrap ((i:Int)+1)=i+1:=IntWalk.i64_in _ Zo;have wi2:IntKind.i64.wrap ((i:Int)+2)=i+2:=IntWalk.i64_in _ Zo;have HX:Hid (((s[i]'hi).toNat:Int)=bt s i):=Yq hi;have b39:(((s[i]'hi).toNat:Int)==39)=false:=by rw[HX.out]; exact beq_eq_false_iff_ne.2 Zo
 have b34:(((s[i]'hi).toNat:Int)==34)=true:=by rw[HX.out]; exact beq_iff_eq.2 Zo
 have HRQ:Hid (quoR 34 i (quoN s 34 (s.size - i) (i+1) [])=R):=Zh (by have:=Yej HR.out Zo; rwa [hmk] at this);have hQ:=fun w=>YcG s i 34 w hs hi hmk Zo (quoN s 34 (s.size - i) (i+1) []) (s.size - i) Zo rfl;have HWD:=Zh fun(out:List UInt8) (fin:Nat) (h:quoN s 34 (s.size - i) (i+1) []= .ok out fin)=>(⟨Yjs h,YkT s _ _ _ _ h⟩:Ja ⟨out.toArray⟩=decide (¬(out.length<1\/60<out.length))/\out.length<=s.size);generalize quoN s 34 (s.size - i) (i+1) []=QR at*;clear hmk hb0 hb1;by_cases hi1:i+1<s.size
 ·have l3:decide ((i:Int)+1<(s.size:Int))=true:=Zt;have l4:decide (i+1<s.size)=true:=decide_eq_true hi1;cases QR with
  |
   bad=>
   simp only[quoV] at hQ;go_enter Tryz.func135,Tryz.ntmps135;go_wp2_with fail;generalize hW:World.alloc (World.alloc w _) _=W;obtain⟨hZ,hE,HB,hwz⟩:=Y8 hW;clear hW;refine(hQ _).mono ?_;rintro e w8 ⟨rfl,hb⟩;obtain⟨hZ,hE,HB,hwz⟩:=YY hb hZ hE HB hwz;clear hb;clear hQ;have HD:Hid (R= .bad 41 i):=Zh HRQ.out.symm;go_wp2_with (first | (refine Yay rfl rfl (rTok) rfl rfl hZ rfl (YN _ _ _) ?_) | (refine Yaz rfl rfl (Yf i 41) rfl rfl hE rfl (YJ _ _) ?_));exact Jh rfl rfl rfl rfl rfl hZ hE HB rfl rfl (x:=.int .i64 i) (by rw[HD.out]; rfl)
  |
   ok out fin=>
   simp only[quoV] at hQ;go_enter Tryz.func135,Tryz.ntmps135;go_wp2_with fail;generalize hW:World.alloc (World.alloc w _) _=W;obtain⟨hZ,hE,HB,hwz⟩:=Y8 hW;clear hW;refine(hQ _).mono ?_;rintro e w8 ⟨rfl,hb⟩;obtain⟨hZ,hE,HB,hwz⟩:=YY hb hZ hE HB hwz;clear hb;clear hQ;have g0:decide ((fin:Int)<0)=false:=Zf;have HR2:Hid (R=if out.length<1\/60<out.length then .bad 43 i else .ok 2 ⟨out.toArray⟩ fin):=Zh HRQ.out.symm;obtain⟨hwd,hol⟩:=HWD.out out fin rfl;have hIW:=fun w=>YcS ⟨out.toArray⟩ w (by rw[show(⟨out.toArray⟩:ByteArray).size=out.length from List.size_toArray ..]; omega);rw[hwd] at hIW;clear hwd HWD HRQ;generalize(⟨out.toArray⟩:ByteArray)=T at*;by_cases hln:out.length<1\/60<out.length
   ·have HD:Hid (R= .bad 43 i):=Zh (by rw[HR2.out,if_pos hln]);rw[decide_eq_false (fun q=>q hln)] at hIW;clear hln HR2;go_wp2_with (first | (go_at_call 182; refine(hIW _).mono ?_; rintro e w9 ⟨rfl,rfl⟩) | (refine Yay rfl rfl (rTok) rfl rfl hZ rfl (YN _ _ _) ?_) | (refine Yaz rfl rfl (Yf i 43) rfl rfl hE rfl (YJ _ _) ?_));exact Jh rfl rfl rfl rfl rfl hZ hE HB rfl rfl (x:=.int .i64 i) (by rw[HD.out]; rfl)
   ·have HD:Hid (R= .ok 2 T fin):=Zh (by rw[HR2.out,if_neg hln]);rw[decide_eq_true hln] at hIW;clear hln HR2;go_wp2_with (first | (go_at_call 182; refine(hIW _).mono ?_; rintro e w9 ⟨rfl,rfl⟩) | (refine Yay rfl rfl (Yi 2 T i) rfl rfl hZ rfl (YN _ _ _) ?_) | (refine Yaz rfl rfl (Yf 0 0) rfl rfl hE rfl (YJ _ _) ?_));exact Jh rfl rfl rfl rfl rfl hZ hE HB rfl rfl (x:=.int .i64 fin) (by rw[HD.out]; rfl)
 ·have l3:decide ((i:Int)+1<(s.size:Int))=false:=Zf;cases QR with
  |
   bad=>
   simp only[quoV] at hQ;go_enter Tryz.func135,Tryz.ntmps135;go_wp2_with fail;generalize hW:World.alloc (World.alloc w _) _=W;obtain⟨hZ,hE,HB,hwz⟩:=Y8 hW;clear hW;refine(hQ _).mono ?_;rintro e w8 ⟨rfl,hb⟩;obtain⟨hZ,hE,HB,hwz⟩:=YY hb hZ hE HB hwz;clear hb;clear hQ;have HD:Hid (R= .bad 41 i):=Zh HRQ.out.symm;go_wp2_with (first | (refine Yay rfl rfl (rTok) rfl rfl hZ rfl (YN _ _ _) ?_) | (refine Yaz rfl rfl (Yf i 41) rfl rfl hE rfl (YJ _ _) ?_));exact Jh rfl rfl rfl rfl rfl hZ hE HB rfl rfl (x:=.int .i64 i) (by rw[HD.out]; rfl)
  |
   ok out fin=>
   simp only[quoV] at hQ;go_enter Tryz.func135,Tryz.ntmps135;go_wp2_with fail;generalize hW:World.alloc (World.alloc w _) _=W;obtain⟨hZ,hE,HB,hwz⟩:=Y8 hW;clear hW;refine(hQ _).mono ?_;rintro e w8 ⟨rfl,hb⟩;obtain⟨hZ,hE,HB,hwz⟩:=YY hb hZ hE HB hwz;clear hb;clear hQ;have g0:decide ((fin:Int)<0)=false:=Zf;have HR2:Hid (R=if out.length<1\/60<out.length then .bad 43 i else .ok 2 ⟨out.toArray⟩ fin):=Zh HRQ.out.symm;obtain⟨hwd,hol⟩:=HWD.out out fin rfl;have hIW:=fun w=>YcS ⟨out.toArray⟩ w (by rw[show(⟨out.toArray⟩:ByteArray).size=out.length from List.size_toArray ..]; omega);rw[hwd] at hIW;clear hwd HWD HRQ;generalize(⟨out.toArray⟩:ByteArray)=T at*;by_cases hln:out.length<1\/60<out.length
   ·have HD:Hid (R= .bad 43 i):=Zh (by rw[HR2.out,if_pos hln]);rw[decide_eq_false (fun q=>q hln)] at hIW;clear hln HR2;go_wp2_with (first | (go_at_call 182; refine(hIW _).mono ?_; rintro e w9 ⟨rfl,rfl⟩) | (refine Yay rfl rfl (rTok) rfl rfl hZ rfl (YN _ _ _) ?_) | (refine Yaz rfl rfl (Yf i 43) rfl rfl hE rfl (YJ _ _) ?_));exact Jh rfl rfl rfl rfl rfl hZ hE HB rfl rfl (x:=.int .i64 i) (by rw[HD.out]; rfl)
   ·have HD:Hid (R= .ok 2 T fin):=Zh (by rw[HR2.out,if_neg hln]);rw[decide_eq_true hln] at hIW;clear hln HR2;go_wp2_with (first | (go_at_call 182; refine(hIW _).mono ?_; rintro e w9 ⟨rfl,rfl⟩) | (refine Yay rfl rfl (Yi 2 T i) rfl rfl hZ rfl (YN _ _ _) ?_) | (refine Yaz rfl rfl (Yf 0 0) rfl rfl hE rfl (YJ _ _) ?_));exact Jh rfl rfl rfl rfl rfl hZ hE HB rfl rfl (x:=.int .i64 fin) (by rw[HD.out]; rfl)
theorem YmE (s:ByteArray)(i:Nat)(w:World)(hs:s.size<=1000000)(hi:i<s.size)(hq:¬(bt s i=39\/bt s i=34))(h4:cls (bt s i).toNat=4)(R:TokR)(hR:tokN s i=R):
 Calls Tryz.prog 135 #[.string s,.int .i64 i] w fun e w'=>e= .returned (oneV i R)/\Below w.heap.size w w':=by
 have HR:=Zh hR;clear hR;have hb0:=YB s i;have hb1:=Jk s i;have l2:decide (i<s.size)=true:=decide_eq_true hi;have wi:IntKind.i64.wrap ((i:Int)+1)=i+1:=IntWalk.i64_in _ Zo;have wi2:IntKind.i64.wrap ((i:Int)+2)=i+2:=IntWalk.i64_in _ Zo;have HX:Hid (((s[i]'hi).toNat:Int)=bt s i):=Yq hi;have b39:(((s[i]'hi).toNat:Int)==39)=false:=by rw[HX.out]; exact beq_eq_false_iff_ne.2 Zo
 have b34:(((s[i]'hi).toNat:Int)==34)=false:=by rw[HX.out]; exact beq_eq_false_iff_ne.2 Zo
 have HD:Hid (R= .ok 6 (s.extract i (i+1)) (i+1)):=Zh (Yf8 HR.out hq h4);have hsg:∀w,Calls Tryz.prog 183 #[.int .u8 ((s[i]'hi).toNat:Int)] w fun e w'=>e= .returned (.bool true)/\w'=w:=fun w=>by
  have:=JC _ (YB s i) w;rw[h4] at this;rw[HX.out]; exact this
 have c1:(0:Int)<=i:=Zo;have c2:(i:Int)<=i+1:=Zo;have c3:(i:Int)+1<=s.size:=Zo;clear hq h4 hb0 hb1;by_cases hi1:i+1<s.size
 ·have l3:decide ((i:Int)+1<(s.size:Int))=true:=Zt;have l4:decide (i+1<s.size)=true:=decide_eq_true hi1;go_enter Tryz.func135,Tryz.ntmps135;go_wp2_with fail;generalize hW:World.alloc (World.alloc w _) _=W;obtain⟨hZ,hE,HB,hwz⟩:=Y8 hW;clear hW;refine(hsg _).mono ?_;rintro e w8 ⟨rfl,rfl⟩;go_wp2_with (first | (refine Yay rfl rfl (Yi 6 (s.extract i (i+1)) i) rfl rfl hZ rfl (YN _ _ _) ?_) | (refine Yaz rfl rfl (Yf 0 0) rfl rfl hE rfl (YJ _ _) ?_));exact Jh rfl rfl rfl rfl rfl hZ hE HB rfl rfl (x:=.int .i64 (i+1)) (by rw[HD.out]; rfl)
 ·have l3:decide ((i:Int)+1<(s.size:Int))=false:=Zf;go_enter Tryz.func135,Tryz.ntmps135;go_wp2_with fail;generalize hW:World.alloc (World.alloc w _) _=W;obtain⟨hZ,hE,HB,hwz⟩:=Y8 hW;clear hW;refine(hsg _).mono ?_;rintro e w8 ⟨rfl,rfl⟩;go_wp2_with (first | (refine Yay rfl rfl (Yi 6 (s.extract i (i+1)) i) rfl rfl hZ rfl (YN _ _ _) ?_) | (refine Yaz rfl rfl (Yf 0 0) rfl rfl hE rfl (YJ _ _) ?_));exact Jh rfl rfl rfl rfl rfl hZ hE HB rfl rfl (x:=.int .i64 (i+1)) (by rw[HD.out]; rfl)
end Go.Proofs.YteamjdmhdfjopaaGreatDoor
