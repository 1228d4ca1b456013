/- A part of the proof; it holds the texts Oxb (names and blanks shortened). -/
import Derived.Test.YteamjdmhdfjopaaGreatDoorM31
namespace Go.Proofs.YteamjdmhdfjopaaGreatDoor
open Go.RowKit
set_option maxRecDepth 100000
set_option maxHeartbeats 8000000
set_option linter.unusedVariables false
set_option linter.unusedSimpArgs false
theorem YmD (s:ByteArray)(i:Nat)(w:World)(hs:s.size<=1000000)(hi:i<s.size)(h36:bt s i=36)(R:TokR)(hR:tokN s i=R):
 Calls Tryz.prog 135 #[.string s,.int .i64 i] w fun e w'=>e= .returned (oneV i R)/\Below w.heap.size w w':=by
 have HR:=Zh hR;clear hR;have hb0:=YB s i;have hb1:=Jk s i;have l2:decide (i<s.size)=true:=decide_eq_true hi;have wi:IntKind.i64.wrap ((i:Int)+1)=i+1:=IntWalk.i64_in _ Zo;have wi2:IntKind.i64.wrap ((i:Int)+2)=i+2:=IntWalk.i64_in _ Zo;have HX:Hid (((s[i]'hi).toNat:Int)=bt s i):=Yq hi;have b39:(((s[i]'hi).toNat:Int)==39)=false:=by rw[HX.out]; exact beq_eq_false_iff_ne.2 Zo
 have b34:(((s[i]'hi).toNat:Int)==34)=false:=by rw[HX.out]; exact beq_eq_false_iff_ne.2 Zo
 have b36:(((s[i]'hi).toNat:Int)==36)=true:=by rw[HX.out]; exact beq_iff_eq.2 Zo
 have hsg:∀w,Calls Tryz.prog 183 #[.int .u8 ((s[i]'hi).toNat:Int)] w fun e w'=>e= .returned (.bool false)/\w'=w:=fun w=>by
  have:=JC _ (YB s i) w;rw[h36] at this;rw[HX.out,h36]; exact this
 have HC:=Zh (Yfo HR.out h36);clear h36 hb0 hb1;by_cases hi1:i+1<s.size
 ·have l3:decide ((i:Int)+1<(s.size:Int))=true:=Zt;have l4:decide (i+1<s.size)=true:=decide_eq_true hi1;have HX1:Hid (((s[i+1]'hi1).toNat:Int)=bt s (i+1)):=Yq hi1;have hL:∀w,Calls Tryz.prog 117 #[.int .u8 ((s[i+1]'hi1).toNat:Int)] w fun e w'=>e= .returned (.bool (cls (bt s (i+1)).toNat==2))/\w'=w:=fun w=>by
   rw[HX1.out]; exact JB _ (YB s (i+1)) w
  by_cases hlt:cls (bt s (i+1)).toNat=2
  ·rw[show(cls (bt s (i+1)).toNat==2)=true by simpa using hlt] at hL;have hC:=HC.out;rw[if_pos hlt] at hC;have hRn:=fun w=>Ygj s (i+1) false w hs Zo;have hle:=YI s (inner Yj) (i+1) Zo;rw[show runP false=inner Yj from rfl] at hRn;generalize Yo s (inner Yj) (i+1)=E at hRn hle hC;have hCl:=fun w=>clear_any s 7 i E 45 w hs hle.2;rw[hC] at hCl;unfold Yi oneV at hCl;have c1:(0:Int)<=i:=Zo;have c2:(i:Int)<=E:=Zo;have c3:(E:Int)<=s.size:=Zo;clear hlt hC HC;go_enter Tryz.func135,Tryz.ntmps135;go_wp2_with fail;generalize hW:World.alloc (World.alloc w _) _=W;obtain⟨hZ,hE,HB,hwz⟩:=Y8 hW;clear hW;refine(hsg _).mono ?_;rintro e w7 ⟨rfl,rfl⟩;go_wp2_with (first | (go_at_call 117; refine(hL _).mono ?_; rintro e w9 ⟨rfl,rfl⟩) | (go_at_call 184; refine(hRn _).mono ?_; rintro e w9 ⟨rfl,rfl⟩));refine(hCl _).mono ?_;rintro e w8 ⟨rfl,hb⟩;obtain⟨hZ,hE,HB,hwz⟩:=YY hb hZ hE HB hwz;clear hb;clear hCl;go_wp2_with (first | (refine YbH rfl rfl rfl rfl hZ ?_) | (refine YbI rfl rfl rfl rfl hE ?_));exact YO rfl rfl rfl rfl rfl hZ hE HB
  ·rw[show(cls (bt s (i+1)).toNat==2)=false by simpa using hlt] at hL;have hC:=HC.out;rw[if_neg hlt] at hC;have hCl:=fun w=>clear_any s 7 i (i+1) 45 w hs Zo;rw[hC] at hCl;unfold Yi oneV at hCl;have c1:(0:Int)<=i:=Zo;have c2:(i:Int)<=i+1:=Zo;have c3:(i:Int)+1<=s.size:=Zo;clear hlt hC HC;go_enter Tryz.func135,Tryz.ntmps135;go_wp2_with fail;generalize hW:World.alloc (World.alloc w _) _=W;obtain⟨hZ,hE,HB,hwz⟩:=Y8 hW;clear hW;refine(hsg _).mono ?_;rintro e w7 ⟨rfl,rfl⟩;go_wp2_with (first | (go_at_call 117; refine(hL _).mono ?_; rintro e w9 ⟨rfl,rfl⟩));refine(hCl _).mono ?_;rintro e w8 ⟨rfl,hb⟩;obtain⟨hZ,hE,HB,hwz⟩:=YY hb hZ hE HB hwz;clear hb;clear hCl;go_wp2_with (first | (refine YbH rfl rfl rfl rfl hZ ?_) | (refine YbI rfl rfl rfl rfl hE ?_));exact YO rfl rfl rfl rfl rfl hZ hE HB
 ·have l3:decide ((i:Int)+1<(s.size:Int))=false:=Zf;have hC:=HC.out;rw[if_neg (by rw[JU Zo]; decide)] at hC;have hCl:=fun w=>clear_any s 7 i (i+1) 45 w hs Zo;rw[hC] at hCl;unfold Yi oneV at hCl;have c1:(0:Int)<=i:=Zo;have c2:(i:Int)<=i+1:=Zo;have c3:(i:Int)+1<=s.size:=Zo;clear hC HC;go_enter Tryz.func135,Tryz.ntmps135;go_wp2_with fail;generalize hW:World.alloc (World.alloc w _) _=W;obtain⟨hZ,hE,HB,hwz⟩:=Y8 hW;clear hW;refine(hsg _).mono ?_;rintro e w7 ⟨rfl,rfl⟩;go_wp2_with fail;refine(hCl _).mono ?_;rintro e w8 ⟨rfl,hb⟩;obtain⟨hZ,hE,HB,hwz⟩:=YY hb hZ hE HB hwz;clear hb;clear hCl;go_wp2_with (first | (refine YbH rfl rfl rfl rfl hZ ?_) | (refine YbI rfl rfl rfl rfl hE ?_));exact YO rfl rfl rfl rfl rfl hZ hE HB
theorem Ynx (s:ByteArray)(i:Nat)(w:World)(hs:s.size<=1000000)(hi:i<s.size)(hq:¬(bt s i=39\/bt s i=34))(h4:¬cls (bt s i).toNat=4)(hste:steB (bt s i)=true)(h46:bt s (i+1)=46)(R:TokR)(hR:tokN s i=R):
 Calls Tryz.prog 135 #[.string s,.int .i64 i] w fun e w'=>e= .returned (oneV i R)/\Below w.heap.size w w':=by
 have HR:=Zh hR;clear hR;have hb0:=YB s i;have hb1:=Jk s i;have l2:decide (i<s.size)=true:=decide_eq_true hi;have wi:IntKind.i64.wrap ((i:Int)+1)=i+1:=IntWalk.i64_in _ Zo;have wi2:IntKind.i64.wrap ((i:Int)+2)=i+2:=IntWalk.i64_in _ Zo;have HX:Hid (((s[i]'hi).toNat:Int)=bt s i):=Yq hi;have h36:¬bt s i=36:=fun q=>by rw[q] at hste; exact absurd hste Zd
 have b39:(((s[i]'hi).toNat:Int)==39)=false:=by rw[HX.out]; exact beq_eq_false_iff_ne.2 Zo
 have b34:(((s[i]'hi).toNat:Int)==34)=false:=by rw[HX.out]; exact beq_eq_false_iff_ne.2 Zo
 have b36:(((s[i]'hi).toNat:Int)==36)=false:=by rw[HX.out]; exact beq_eq_false_iff_ne.2 h36
 have hsg:∀w,Calls Tryz.prog 183 #[.int .u8 ((s[i]'hi).toNat:Int)] w fun e w'=>e= .returned (.bool false)/\w'=w:=fun w=>by
  have:=JC _ (YB s i) w;rw[show(cls (bt s i).toNat==4)=false by simpa using h4] at this;rw[HX.out]; exact this
 have hi1:i+1<s.size:=Nat.lt_of_not_le fun r=>by rw[JU r] at h46; cases h46
 have l3:decide ((i:Int)+1<(s.size:Int))=true:=Zt;have l4:decide (i+1<s.size)=true:=decide_eq_true hi1;have n46:(((s[i+1]'hi1).toNat:Int)==46)=true:=by rw[Yq hi1,h46]; rfl
 have hC:=Yfp hi1 HR.out hq h4 ⟨hste,h46⟩;have hRn:=fun w=>Ygj s (i+2) true w hs Zo;have hle:=YI s (inner JI) (i+2) Zo;rw[show runP true=inner JI from rfl] at hRn;generalize Yo s (inner JI) (i+2)=E at hRn hle hC;have hCl:=fun w=>clear_any s 5 i E 43 w hs hle.2;rw[hC] at hCl;unfold Yi oneV at hCl;have c1:(0:Int)<=i:=Zo;have c2:(i:Int)<=E:=Zo;have c3:(E:Int)<=s.size:=Zo;clear hq h4 h36 h46 hC hb0 hb1;have hst:bt s i=115\/(¬bt s i=115/\bt s i=116)\/(¬bt s i=115/\¬bt s i=116/\bt s i=101):=by
  unfold steB at hste;simp only[Bool.or_eq_true,beq_iff_eq] at hste;omega
 clear hste;rcases hst with h1 | ⟨h1,h2⟩ | ⟨h1,h2,h3⟩
 ·have b115:(((s[i]'hi).toNat:Int)==115)=true:=by rw[HX.out]; exact beq_iff_eq.2 h1
  clear h1;go_enter Tryz.func135,Tryz.ntmps135;go_wp2_with fail;generalize hW:World.alloc (World.alloc w _) _=W;obtain⟨hZ,hE,HB,hwz⟩:=Y8 hW;clear hW;refine(hsg _).mono ?_;rintro e w7 ⟨rfl,rfl⟩;go_wp2_with (first | (go_at_call 184; refine(hRn _).mono ?_; rintro e w9 ⟨rfl,rfl⟩));refine(hCl _).mono ?_;rintro e w8 ⟨rfl,hb⟩;obtain⟨hZ,hE,HB,hwz⟩:=YY hb hZ hE HB hwz;clear hb;clear hCl;go_wp2_with (first | (refine YbH rfl rfl rfl rfl hZ ?_) | (refine YbI rfl rfl rfl rfl hE ?_));exact YO rfl rfl rfl rfl rfl hZ hE HB
 ·have b115:(((s[i]'hi).toNat:Int)==115)=false:=by rw[HX.out]; exact beq_eq_false_iff_ne.2 h1
  have b116:(((s[i]'hi).toNat:Int)==116)=true:=by rw[HX.out]; exact beq_iff_eq.2 h2
  clear h1 h2;go_enter Tryz.func135,Tryz.ntmps135;go_wp2_with fail;generalize hW:World.alloc (World.alloc w _) _=W;obtain⟨hZ,hE,HB,hwz⟩:=Y8 hW;clear hW;refine(hsg _).mono ?_;rintro e w7 ⟨rfl,rfl⟩;go_wp2_with (first | (go_at_call 184; refine(hRn _).mono ?_; rintro e w9 ⟨rfl,rfl⟩));refine(hCl _).mono ?_;rintro e w8 ⟨rfl,hb⟩;obtain⟨hZ,hE,HB,hwz⟩:=YY hb hZ hE HB hwz;clear hb;clear hCl;go_wp2_with (first | (refine YbH rfl rfl rfl rfl hZ ?_) | (refine YbI rfl rfl rfl rfl hE ?_));exact YO rfl rfl rfl rfl rfl hZ hE HB
 ·have b115:(((s[i]'hi).toNat:Int)==115)=false:=by rw[HX.out]; exact beq_eq_false_iff_ne.2 h1
  have b116:(((s[i]'hi).toNat:Int)==116)=false:=by rw[HX.out]; exact beq_eq_false_iff_ne.2 h2
  have b101:(((s[i]'hi).toNat:Int)==101)=true:=by rw[HX.out]; exact beq_iff_eq.2 h3
  clear h1 h2 h3;go_enter Tryz.func135,Tryz.ntmps135;go_wp2_with fail;generalize hW:World.alloc (World.alloc w _) _=W;obtain⟨hZ,hE,HB,hwz⟩:=Y8 hW;clear hW;refine(hsg _).mono ?_;rintro e w7 ⟨rfl,rfl⟩;go_wp2_with (first | (go_at_call 184; refine(hRn _).mono ?_; rintro e w9 ⟨rfl,rfl⟩));refine(hCl _).mono ?_;rintro e w8 ⟨rfl,hb⟩;obtain⟨hZ,hE,HB,hwz⟩:=YY hb hZ hE HB hwz;clear hb;clear hCl;go_wp2_with (first | (refine YbH rfl rfl rfl rfl hZ ?_) | (refine YbI rfl rfl rfl rfl hE ?_));exact YO rfl rfl rfl rfl rfl hZ hE HB
theorem YmG (s:ByteArray)(i:Nat)(w:World)(hs:s.size<=1000000)(hi:i<s.size)(hq:¬(bt s i=39\/bt s i=34))(h2:cls (bt s i).toNat=2)(hv:¬(steB (bt s i)=true/\bt s (i+1)=46))(R:TokR)(hR:tokN s i=R):
 Calls Tryz.prog 135 #[.string s,.int .i64 i] w fun e w'=>e= .returned (oneV i R)/\Below w.heap.size w w':=by
 have HR:=Zh hR;clear hR;have hb0:=YB s i;have hb1:=Jk s i;have l2:decide (i<s.size)=true:=decide_eq_true hi;have wi:IntKind.i64.wrap ((i:Int)+1)=i+1:=IntWalk.i64_in _ Zo;have wi2:IntKind.i64.wrap ((i:Int)+2)=i+2:=IntWalk.i64_in _ Zo;have HX:Hid (((s[i]'hi).toNat:Int)=bt s i):=Yq hi;have h36:¬bt s i=36:=fun q=>by rw[q] at h2; exact absurd h2 Zd
 have h4:¬cls (bt s i).toNat=4:=by rw[h2]; decide
 have b39:(((s[i]'hi).toNat:Int)==39)=false:=by rw[HX.out]; exact beq_eq_false_iff_ne.2 Zo
 have b34:(((s[i]'hi).toNat:Int)==34)=false:=by rw[HX.out]; exact beq_eq_false_iff_ne.2 Zo
 have b36:(((s[i]'hi).toNat:Int)==36)=false:=by rw[HX.out]; exact beq_eq_false_iff_ne.2 h36
 have hsg:∀w,Calls Tryz.prog 183 #[.int .u8 ((s[i]'hi).toNat:Int)] w fun e w'=>e= .returned (.bool false)/\w'=w:=fun w=>by
  have:=JC _ (YB s i) w;rw[show(cls (bt s i).toNat==4)=false by simpa using h4] at this;rw[HX.out]; exact this
 have hLt:∀w,Calls Tryz.prog 117 #[.int .u8 ((s[i]'hi).toNat:Int)] w fun e w'=>e= .returned (.bool true)/\w'=w:=fun w=>by
  have:=JB _ (YB s i) w;rw[h2] at this;rw[HX.out]; exact this
 have hC:=Yfq hi HR.out hq hv h2;have hRn:=fun w=>Ygj s i false w hs Zo;have hle:=YI s (inner Yj) i Zo;rw[show runP false=inner Yj from rfl] at hRn;generalize Yo s (inner Yj) i=E at hRn hle hC;have hCl:=fun w=>clear_any s 3 i E 43 w hs hle.2;rw[hC] at hCl;unfold Yi oneV at hCl;have c1:(0:Int)<=i:=Zo;have c2:(i:Int)<=E:=Zo;have c3:(E:Int)<=s.size:=Zo;clear hq h4 h36 hC hb0 hb1 h2;by_cases hste:steB (bt s i)=true
 ·have h46:¬bt s (i+1)=46:=fun q=>hv ⟨hste,q⟩;clear hv;by_cases hi1:i+1<s.size
  ·have l3:decide ((i:Int)+1<(s.size:Int))=true:=Zt;have l4:decide (i+1<s.size)=true:=decide_eq_true hi1;have n46:(((s[i+1]'hi1).toNat:Int)==46)=false:=by rw[Yq hi1]; exact beq_eq_false_iff_ne.2 h46
   clear h46;have hst:bt s i=115\/(¬bt s i=115/\bt s i=116)\/(¬bt s i=115/\¬bt s i=116/\bt s i=101):=by
    unfold steB at hste;simp only[Bool.or_eq_true,beq_iff_eq] at hste;omega
   clear hste;rcases hst with h1 | ⟨h1,h2⟩ | ⟨h1,h2,h3⟩
   ·have b115:(((s[i]'hi).toNat:Int)==115)=true:=by rw[HX.out]; exact beq_iff_eq.2 h1
    clear h1;go_enter Tryz.func135,Tryz.ntmps135;go_wp2_with fail;generalize hW:World.alloc (World.alloc w _) _=W;obtain⟨hZ,hE,HB,hwz⟩:=Y8 hW;clear hW;refine(hsg _).mono ?_;rintro e w7 ⟨rfl,rfl⟩;go_wp2_with (first | (go_at_call 117; refine(hLt _).mono ?_; rintro e w9 ⟨rfl,rfl⟩) | (go_at_call 184; refine(hRn _).mono ?_; rintro e w9 ⟨rfl,rfl⟩));refine(hCl _).mono ?_;rintro e w8 ⟨rfl,hb⟩;obtain⟨hZ,hE,HB,hwz⟩:=YY hb hZ hE HB hwz;clear hb;clear hCl;go_wp2_with (first | (refine YbH rfl rfl rfl rfl hZ ?_) | (refine YbI rfl rfl rfl rfl hE ?_));exact YO rfl rfl rfl rfl rfl hZ hE HB
   ·have b115:(((s[i]'hi).toNat:Int)==115)=false:=by rw[HX.out]; exact beq_eq_false_iff_ne.2 h1
    have b116:(((s[i]'hi).toNat:Int)==116)=true:=by rw[HX.out]; exact beq_iff_eq.2 h2
    clear h1 h2;go_enter Tryz.func135,Tryz.ntmps135;go_wp2_with fail;generalize hW:World.alloc (World.alloc w _) _=W;obtain⟨hZ,hE,HB,hwz⟩:=Y8 hW;clear hW;refine(hsg _).mono ?_;rintro e w7 ⟨rfl,rfl⟩;go_wp2_with (first | (go_at_call 117; refine(hLt _).mono ?_; rintro e w9 ⟨rfl,rfl⟩) | (go_at_call 184; refine(hRn _).mono ?_; rintro e w9 ⟨rfl,rfl⟩));refine(hCl _).mono ?_;rintro e w8 ⟨rfl,hb⟩;obtain⟨hZ,hE,HB,hwz⟩:=YY hb hZ hE HB hwz;clear hb;clear hCl;go_wp2_with (first | (refine YbH rfl rfl rfl rfl hZ ?_) | (refine YbI rfl rfl rfl rfl hE ?_));exact YO rfl rfl rfl rfl rfl hZ hE HB
   ·have b115:(((s[i]'hi).toNat:Int)==115)=false:=by rw[HX.out]; exact beq_eq_false_iff_ne.2 h1
    have b116:(((s[i]'hi).toNat:Int)==116)=false:=by rw[HX.out]; exact beq_eq_false_iff_ne.2 h2
    have b101:(((s[i]'hi).toNat:Int)==101)=true:=by rw[HX.out]; exact beq_iff_eq.2 h3
    clear h1 h2 h3;go_enter Tryz.func135,Tryz.ntmps135;go_wp2_with fail;generalize hW:World.alloc (World.alloc w _) _=W;obtain⟨hZ,hE,HB,hwz⟩:=Y8 hW;clear hW;refine(hsg _).mono ?_;rintro e w7 ⟨rfl,rfl⟩;go_wp2_with (first | (go_at_call 117; refine(hLt _).mono ?_; rintro e w9 ⟨rfl,rfl⟩) | (go_at_call 184; refine(hRn _).mono ?_; rintro e w9 ⟨rfl,rfl⟩));refine(hCl _).mono ?_;rintro e w8 ⟨rfl,hb⟩;obtain⟨hZ,hE,HB,hwz⟩:=YY hb hZ hE HB hwz;clear hb;clear hCl;go_wp2_with (first | (refine YbH rfl rfl rfl rfl hZ ?_) | (refine YbI rfl rfl rfl rfl hE ?_));exact YO rfl rfl rfl rfl rfl hZ hE HB
  ·have l3:decide ((i:Int)+1<(s.size:Int))=false:=Zf;clear h46;have hst:bt s i=115\/(¬bt s i=115/\bt s i=116)\/(¬bt s i=115/\¬bt s i=116/\bt s i=101):=by
    unfold steB at hste;simp only[Bool.or_eq_true,beq_iff_eq] at hste;omega
   clear hste;rcases hst with h1 | ⟨h1,h2⟩ | ⟨h1,h2,h3⟩
   ·have b115:(((s[i]'hi).toNat:Int)==115)=true:=by rw[HX.out]; exact beq_iff_eq.2 h1
    clear h1;go_enter Tryz.func135,Tryz.ntmps135;go_wp2_with fail;generalize hW:World.alloc (World.alloc w _) _=W;obtain⟨hZ,hE,HB,hwz⟩:=Y8 hW;clear hW;refine(hsg _).mono ?_;rintro e w7 ⟨rfl,rfl⟩;go_wp2_with (first | (go_at_call 117; refine(hLt _).mono ?_; rintro e w9 ⟨rfl,rfl⟩) | (go_at_call 184; refine(hRn _).mono ?_; rintro e w9 ⟨rfl,rfl⟩));refine(hCl _).mono ?_;rintro e w8 ⟨rfl,hb⟩;obtain⟨hZ,hE,HB,hwz⟩:=YY hb hZ hE HB hwz;clear hb;clear hCl;go_wp2_with (first | (refine YbH rfl rfl rfl rfl hZ ?_) | (refine YbI rfl rfl rfl rfl hE ?_));exact YO rfl rfl rfl rfl rfl hZ hE HB
   ·have b115:(((s[i]'hi).toNat:Int)==115)=false:=by rw[HX.out]; exact beq_eq_false_iff_ne.2 h1
    have b116:(((s[i]'hi).toNat:Int)==116)=true:=by rw[HX.out]; exact beq_iff_eq.2 h2
    clear h1 h2;go_enter Tryz.func135,Tryz.ntmps135;go_wp2_with fail;generalize hW:World.alloc (World.alloc w _) _=W;obtain⟨hZ,hE,HB,hwz⟩:=Y8 hW;clear hW;refine(hsg _).mono ?_;rintro e w7 ⟨rfl,rfl⟩;go_wp2_with (first | (go_at_call 117; refine(hLt _).mono ?_; rintro e w9 ⟨rfl,rfl⟩) | (go_at_call 184; refine(hRn _).mono ?_; rintro e w9 ⟨rfl,rfl⟩));refine(hCl _).mono ?_;rintro e w8 ⟨rfl,hb⟩;obtain⟨hZ,hE,HB,hwz⟩:=YY hb hZ hE HB hwz;clear hb;clear hCl;go_wp2_with (first | (refine YbH rfl rfl rfl rfl hZ ?_) | (refine YbI rfl rfl rfl rfl hE ?_));exact YO rfl rfl rfl rfl rfl hZ hE HB
   ·have b115:(((s[i]'hi).toNat:Int)==115)=false:=by rw[HX.out]; exact beq_eq_false_iff_ne.2 h1
    have b116:(((s[i]'hi).toNat:Int)==116)=false:=by rw[HX.out]; exact beq_eq_false_iff_ne.2 h2
    have b101:(((s[i]'hi).toNat:Int)==101)=true:=by rw[HX.out]; exact beq_iff_eq.2 h3
    clear h1 h2 h3;go_enter Tryz.func135,Tryz.ntmps135;go_wp2_with fail;generalize hW:World.alloc (World.alloc w _) _=W;obtain⟨hZ,hE,HB,hwz⟩:=Y8 hW;clear hW;refine(hsg _).mono ?_;rintro e w7 ⟨rfl,rfl⟩;go_wp2_with (first | (go_at_call 117; refine(hLt _).mono ?_; rintro e w9 ⟨rfl,rfl⟩) | (go_at_call 184; refine(hRn _).mono ?_; rintro e w9 ⟨rfl,rfl⟩));refine(hCl _).mono ?_;rintro e w8 ⟨rfl,hb⟩;obtain⟨hZ,hE,HB,hwz⟩:=YY hb hZ hE HB hwz;clear hb;clear hCl;go_wp2_with (first | (refine YbH rfl rfl rfl rfl hZ ?_) | (refine YbI rfl rfl rfl rfl hE ?_));exact YO rfl rfl rfl rfl rfl hZ hE HB
 ·have hst:¬bt s i=115/\¬bt s i=116/\¬bt s i=101:=by
   unfold steB at hste;simp only[Bool.or_eq_true,beq_iff_eq] at hste;omega
  have b115:(((s[i]'hi).toNat:Int)==115)=false:=by rw[HX.out]; exact beq_eq_false_iff_ne.2 hst.1
  have b116:(((s[i]'hi).toNat:Int)==116)=false:=by rw[HX.out]; exact beq_eq_false_iff_ne.2 hst.2.1
  have b101:(((s[i]'hi).toNat:Int)==101)=false:=by rw[HX.out]; exact beq_eq_false_iff_ne.2 hst.2.2
  clear hv hste hst;by_cases hi1:i+1<s.size
  ·have l3:decide ((i:Int)+1<(s.size:Int))=true:=Zt;have l4:decide (i+1<s.size)=true:=decide_eq_true hi1;go_enter Tryz.func135,Tryz.ntmps135;go_wp2_with fail;generalize hW:World.alloc (World.alloc w _) _=W;obtain⟨hZ,hE,HB,hwz⟩:=Y8 hW;clear hW;refine(hsg _).mono ?_;rintro e w7 ⟨rfl,rfl⟩;go_wp2_with (first | (go_at_call 117; refine(hLt _).mono ?_; rintro e w9 ⟨rfl,rfl⟩) | (go_at_call 184; refine(hRn _).mono ?_; rintro e w9 ⟨rfl,rfl⟩));refine(hCl _).mono ?_;rintro e w8 ⟨rfl,hb⟩;obtain⟨hZ,hE,HB,hwz⟩:=YY hb hZ hE HB hwz;clear hb;clear hCl;go_wp2_with (first | (refine YbH rfl rfl rfl rfl hZ ?_) | (refine YbI rfl rfl rfl rfl hE ?_));exact YO rfl rfl rfl rfl rfl hZ hE HB
  ·have l3:decide ((i:Int)+1<(s.size:Int))=false:=Zf;go_enter Tryz.func135,Tryz.ntmps135;go_wp2_with fail;generalize hW:World.alloc (World.alloc w _) _=W;obtain⟨hZ,hE,HB,hwz⟩:=Y8 hW;clear hW;refine(hsg _).mono ?_;rintro e w7 ⟨rfl,rfl⟩;go_wp2_with (first | (go_at_call 117; refine(hLt _).mono ?_; rintro e w9 ⟨rfl,rfl⟩) | (go_at_call 184; refine(hRn _).mono ?_; rintro e w9 ⟨rfl,rfl⟩));refine(hCl _).mono ?_;rintro e w8 ⟨rfl,hb⟩;obtain⟨hZ,hE,HB,hwz⟩:=YY hb hZ hE HB hwz;clear hb;clear hCl;go_wp2_with (first | (refine YbH rfl rfl rfl rfl hZ ?_) | (refine YbI rfl rfl rfl rfl hE ?_));exact YO rfl rfl rfl rfl rfl hZ hE HB
end Go.Proofs.YteamjdmhdfjopaaGreatDoor
