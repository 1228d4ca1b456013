/- A part of the proof; it holds the texts Oxc (names and blanks shortened). -/
import Derived.Test.YteamjdmhdfjopaaGreatDoorM31
namespace Go.Proofs.YteamjdmhdfjopaaGreatDoor
open Go.RowKit
set_option maxRecDepth 100000
set_option maxHeartbeats 8000000
set_option linter.unusedVariables false
set_option linter.unusedSimpArgs false
theorem Yk1 (s:ByteArray)(i:Nat)(w:World)(hs:s.size<=1000000)(hi:i<s.size)(hq:¬(bt s i=39\/bt s i=34))(h3:cls (bt s i).toNat=3)(R:TokR)(hR:tokN s i=R):
 Calls Tryz.prog 135 #[.string s,.int .i64 i] w fun e w'=>e= .returned (oneV i R)/\Below w.heap.size w w':=by
 have HR:=Zh hR;clear hR;have hb0:=YB s i;have hb1:=Jk s i;have l2:decide (i<s.size)=true:=decide_eq_true hi;have wi:IntKind.i64.wrap ((i:Int)+1)=i+1:=IntWalk.i64_in _ Zo;have wi2:IntKind.i64.wrap ((i:Int)+2)=i+2:=IntWalk.i64_in _ Zo;have HX:Hid (((s[i]'hi).toNat:Int)=bt s i):=Yq hi;have h36:¬bt s i=36:=fun q=>by rw[q] at h3; exact absurd h3 Zd
 have h4:¬cls (bt s i).toNat=4:=by rw[h3]; decide
 have h2:¬cls (bt s i).toNat=2:=by rw[h3]; decide
 have hste:¬(steB (bt s i)=true/\bt s (i+1)=46):=by
  rintro⟨q,_⟩;have:=Ygz (s:=s) (i:=i) (fun c=>!steB c||cls c.toNat==2) Yfv;simp only[q,Bool.not_true,Bool.false_or,beq_iff_eq] at this;exact h2 this
 have b39:(((s[i]'hi).toNat:Int)==39)=false:=by rw[HX.out]; exact beq_eq_false_iff_ne.2 Zo
 have b34:(((s[i]'hi).toNat:Int)==34)=false:=by rw[HX.out]; exact beq_eq_false_iff_ne.2 Zo
 have b36:(((s[i]'hi).toNat:Int)==36)=false:=by rw[HX.out]; exact beq_eq_false_iff_ne.2 h36
 have hsg:∀w,Calls Tryz.prog 183 #[.int .u8 ((s[i]'hi).toNat:Int)] w fun e w'=>e= .returned (.bool false)/\w'=w:=fun w=>by
  have:=JC _ (YB s i) w;rw[show(cls (bt s i).toNat==4)=false by simpa using h4] at this;rw[HX.out]; exact this
 have hLt:∀w,Calls Tryz.prog 117 #[.int .u8 ((s[i]'hi).toNat:Int)] w fun e w'=>e= .returned (.bool false)/\w'=w:=fun w=>by
  have:=JB _ (YB s i) w;rw[show(cls (bt s i).toNat==2)=false by simpa using h2] at this;rw[HX.out]; exact this
 have hst:¬bt s i=115/\¬bt s i=116/\¬bt s i=101:=⟨fun q=>h2 (by rw[q]; decide),fun q=>h2 (by rw[q]; decide),fun q=>h2 (by rw[q]; decide)⟩;have b115:(((s[i]'hi).toNat:Int)==115)=false:=by rw[HX.out]; exact beq_eq_false_iff_ne.2 hst.1
 have b116:(((s[i]'hi).toNat:Int)==116)=false:=by rw[HX.out]; exact beq_eq_false_iff_ne.2 hst.2.1
 have b101:(((s[i]'hi).toNat:Int)==101)=false:=by rw[HX.out]; exact beq_eq_false_iff_ne.2 hst.2.2
 have hDg:∀w,Calls Tryz.prog 157 #[.int .u8 ((s[i]'hi).toNat:Int)] w fun e w'=>e= .returned (.bool true)/\w'=w:=fun w=>by
  have:=YP _ (YB s i) w;rw[h3] at this;rw[HX.out]; exact this
 have HC:=Zh (Ydm HR.out hq h4 hste h2 (.inl h3));clear hq h4 h36 h2 h3 hst hste hb0 hb1;by_cases hi1:i+1<s.size
 ·have l3:decide ((i:Int)+1<(s.size:Int))=true:=Zt;have l4:decide (i+1<s.size)=true:=decide_eq_true hi1;go_enter Tryz.func135,Tryz.ntmps135;go_wp2_with fail;generalize hW:World.alloc (World.alloc w _) _=W;obtain⟨hZ,hE,HB,hwz⟩:=Y8 hW;clear hW;refine(hsg _).mono ?_;rintro e w7 ⟨rfl,rfl⟩;go_wp2_with (first | (go_at_call 117; refine(hLt _).mono ?_; rintro e w9 ⟨rfl,rfl⟩) | (go_at_call 157; refine(hDg _).mono ?_; rintro e w9 ⟨rfl,rfl⟩));go_loopw [14] (fun x wr=>∃k:Nat,i+1<=k/\k<=s.size/\x= .int .i64 k/\wr=w9/\Hid (digE s k=digE s (i+1))) (fun x _=>s.size - (intOf x).toNat)
  case atStart=>exact⟨i+1,Nat.le_refl _,by omega,by go_num,rfl,rfl⟩
  case round=>
   obtain⟨k,hk1,hk2,rfl,rfl,HE⟩:=hrel;clear hLt hsg;by_cases hkl:k<s.size
   ·have m1:decide ((k:Int)<(s.size:Int))=true:=Zt;have m2:decide (k<s.size)=true:=decide_eq_true hkl;have mk:IntKind.i64.wrap ((k:Int)+1)=k+1:=IntWalk.i64_in _ Zo;have HXk:Hid (((s[k]'hkl).toNat:Int)=bt s k):=Yq hkl;have hDk:∀w,Calls Tryz.prog 157 #[.int .u8 ((s[k]'hkl).toNat:Int)] w fun e w'=>e= .returned (.bool (cls (bt s k).toNat==3))/\w'=w:=fun w=>by
     rw[HXk.out]; exact YP _ (YB s k) w
    by_cases hd:cls (bt s k).toNat=3
    ·have HE2:Hid (digE s (k+1)=digE s (i+1)):=Zh (by rw[<-HE.out]; exact(YD hkl (by show(cls (bt s k).toNat==3)=true; simpa using hd)).symm);rw[show(cls (bt s k).toNat==3)=true by simpa using hd] at hDk;clear hd;go_wp2_with (first | (go_at_call 157; refine(hDk _).mono ?_; rintro e w9 ⟨rfl,rfl⟩));go_roundw
     case rel=>exact⟨k+1,by omega,by omega,by go_num,by trivial,HE2⟩
     case measure=>simp[intOf]; omega
    ·have HE2:Hid (digE s (i+1)=k):=Zh (by rw[<-HE.out]; exact Yk (by rintro⟨_,q⟩; exact hd (by simpa using q)));rw[show(cls (bt s k).toNat==3)=false by simpa using hd] at hDk;clear hd;have hC2:=HC.out;rw[HE2.out] at hC2;have hCl:=fun w=>clear_any s 4 i k 43 w hs hk2;rw[hC2] at hCl;unfold Yi oneV at hCl;have c1:(0:Int)<=i:=Zo;have c2:(i:Int)<=k:=Zo;have c3:(k:Int)<=s.size:=Zo;clear hC2;go_wp2_with (first | (go_at_call 157; refine(hDk _).mono ?_; rintro e w9 ⟨rfl,rfl⟩));refine(hCl _).mono ?_;rintro e w8 ⟨rfl,hb⟩;obtain⟨hZ,hE,HB,hwz⟩:=YY hb hZ hE HB hwz;clear hb;clear hCl;go_wp2_with (first | (refine YbH rfl rfl rfl rfl hZ ?_) | (refine YbI rfl rfl rfl rfl hE ?_));exact YO rfl rfl rfl rfl rfl hZ hE HB
   ·have m1:decide ((k:Int)<(s.size:Int))=false:=Zf;have HE2:Hid (digE s (i+1)=k):=Zh (by rw[<-HE.out]; exact Yk Zo);have hC2:=HC.out;rw[HE2.out] at hC2;have hCl:=fun w=>clear_any s 4 i k 43 w hs hk2;rw[hC2] at hCl;unfold Yi oneV at hCl;have c1:(0:Int)<=i:=Zo;have c2:(i:Int)<=k:=Zo;have c3:(k:Int)<=s.size:=Zo;clear hC2;go_wp2_with fail;refine(hCl _).mono ?_;rintro e w8 ⟨rfl,hb⟩;obtain⟨hZ,hE,HB,hwz⟩:=YY hb hZ hE HB hwz;clear hb;clear hCl;go_wp2_with (first | (refine YbH rfl rfl rfl rfl hZ ?_) | (refine YbI rfl rfl rfl rfl hE ?_));exact YO rfl rfl rfl rfl rfl hZ hE HB
 ·have l3:decide ((i:Int)+1<(s.size:Int))=false:=Zf;go_enter Tryz.func135,Tryz.ntmps135;go_wp2_with fail;generalize hW:World.alloc (World.alloc w _) _=W;obtain⟨hZ,hE,HB,hwz⟩:=Y8 hW;clear hW;refine(hsg _).mono ?_;rintro e w7 ⟨rfl,rfl⟩;go_wp2_with (first | (go_at_call 117; refine(hLt _).mono ?_; rintro e w9 ⟨rfl,rfl⟩) | (go_at_call 157; refine(hDg _).mono ?_; rintro e w9 ⟨rfl,rfl⟩));go_loopw [14] (fun x wr=>∃k:Nat,i+1<=k/\k<=s.size/\x= .int .i64 k/\wr=w9/\Hid (digE s k=digE s (i+1))) (fun x _=>s.size - (intOf x).toNat)
  case atStart=>exact⟨i+1,Nat.le_refl _,by omega,by go_num,rfl,rfl⟩
  case round=>
   obtain⟨k,hk1,hk2,rfl,rfl,HE⟩:=hrel;clear hLt hsg;by_cases hkl:k<s.size
   ·exfalso; omega
   ·have m1:decide ((k:Int)<(s.size:Int))=false:=Zf;have HE2:Hid (digE s (i+1)=k):=Zh (by rw[<-HE.out]; exact Yk Zo);have hC2:=HC.out;rw[HE2.out] at hC2;have hCl:=fun w=>clear_any s 4 i k 43 w hs hk2;rw[hC2] at hCl;unfold Yi oneV at hCl;have c1:(0:Int)<=i:=Zo;have c2:(i:Int)<=k:=Zo;have c3:(k:Int)<=s.size:=Zo;clear hC2;go_wp2_with fail;refine(hCl _).mono ?_;rintro e w8 ⟨rfl,hb⟩;obtain⟨hZ,hE,HB,hwz⟩:=YY hb hZ hE HB hwz;clear hb;clear hCl;go_wp2_with (first | (refine YbH rfl rfl rfl rfl hZ ?_) | (refine YbI rfl rfl rfl rfl hE ?_));exact YO rfl rfl rfl rfl rfl hZ hE HB
theorem YkZ (s:ByteArray)(i:Nat)(w:World)(hs:s.size<=1000000)(hi:i<s.size)(h45:bt s i=45)(h3:cls (bt s (i+1)).toNat=3)(R:TokR)(hR:tokN s i=R):
 Calls Tryz.prog 135 #[.string s,.int .i64 i] w fun e w'=>e= .returned (oneV i R)/\Below w.heap.size w w':=by
 have HR:=Zh hR;clear hR;have hb0:=YB s i;have hb1:=Jk s i;have l2:decide (i<s.size)=true:=decide_eq_true hi;have wi:IntKind.i64.wrap ((i:Int)+1)=i+1:=IntWalk.i64_in _ Zo;have wi2:IntKind.i64.wrap ((i:Int)+2)=i+2:=IntWalk.i64_in _ Zo;have HX:Hid (((s[i]'hi).toNat:Int)=bt s i):=Yq hi;have hq:¬(bt s i=39\/bt s i=34):=Zo;have h36:¬bt s i=36:=Zo;have h4:¬cls (bt s i).toNat=4:=by rw[h45]; decide
 have h2:¬cls (bt s i).toNat=2:=by rw[h45]; decide
 have hste:¬(steB (bt s i)=true/\bt s (i+1)=46):=by rw[h45]; rintro⟨q,_⟩; exact absurd q Zd
 have b39:(((s[i]'hi).toNat:Int)==39)=false:=by rw[HX.out]; exact beq_eq_false_iff_ne.2 Zo
 have b34:(((s[i]'hi).toNat:Int)==34)=false:=by rw[HX.out]; exact beq_eq_false_iff_ne.2 Zo
 have b36:(((s[i]'hi).toNat:Int)==36)=false:=by rw[HX.out]; exact beq_eq_false_iff_ne.2 h36
 have b45:(((s[i]'hi).toNat:Int)==45)=true:=by rw[HX.out]; exact beq_iff_eq.2 Zo
 have hsg:∀w,Calls Tryz.prog 183 #[.int .u8 ((s[i]'hi).toNat:Int)] w fun e w'=>e= .returned (.bool false)/\w'=w:=fun w=>by
  have:=JC _ (YB s i) w;rw[show(cls (bt s i).toNat==4)=false by simpa using h4] at this;rw[HX.out]; exact this
 have hLt:∀w,Calls Tryz.prog 117 #[.int .u8 ((s[i]'hi).toNat:Int)] w fun e w'=>e= .returned (.bool false)/\w'=w:=fun w=>by
  have:=JB _ (YB s i) w;rw[show(cls (bt s i).toNat==2)=false by simpa using h2] at this;rw[HX.out]; exact this
 have hst:¬bt s i=115/\¬bt s i=116/\¬bt s i=101:=⟨fun q=>h2 (by rw[q]; decide),fun q=>h2 (by rw[q]; decide),fun q=>h2 (by rw[q]; decide)⟩;have b115:(((s[i]'hi).toNat:Int)==115)=false:=by rw[HX.out]; exact beq_eq_false_iff_ne.2 hst.1
 have b116:(((s[i]'hi).toNat:Int)==116)=false:=by rw[HX.out]; exact beq_eq_false_iff_ne.2 hst.2.1
 have b101:(((s[i]'hi).toNat:Int)==101)=false:=by rw[HX.out]; exact beq_eq_false_iff_ne.2 hst.2.2
 have hDg:∀w,Calls Tryz.prog 157 #[.int .u8 ((s[i]'hi).toNat:Int)] w fun e w'=>e= .returned (.bool false)/\w'=w:=fun w=>by
  have:=YP _ (YB s i) w;rw[show(cls (bt s i).toNat==3)=false by rw[h45]; rfl] at this;rw[HX.out]; exact this
 have hi1:i+1<s.size:=Nat.lt_of_not_le fun r=>by rw[JU r] at h3; exact absurd h3 Zd
 have l3:decide ((i:Int)+1<(s.size:Int))=true:=Zt;have l4:decide (i+1<s.size)=true:=decide_eq_true hi1;obtain⟨j,hj⟩:∃j,j=i+1:=⟨_,rfl⟩;have HX1:Hid (((s[i+1]'hi1).toNat:Int)=bt s (i+1)):=Yq hi1;have hDn:∀w,Calls Tryz.prog 157 #[.int .u8 ((s[i+1]'hi1).toNat:Int)] w fun e w'=>e= .returned (.bool true)/\w'=w:=fun w=>by
  have:=YP _ (YB s (i+1)) w;rw[h3] at this;rw[HX1.out]; exact this
 have HC:=Zh (Ydm HR.out hq h4 hste h2 (.inr ⟨h45,h3⟩));clear hj hq h4 h36 h2 h3 hst hste hb0 hb1 h45;go_enter Tryz.func135,Tryz.ntmps135;go_wp2_with fail;generalize hW:World.alloc (World.alloc w _) _=W;obtain⟨hZ,hE,HB,hwz⟩:=Y8 hW;clear hW;refine(hsg _).mono ?_;rintro e w7 ⟨rfl,rfl⟩;go_wp2_with (first | (go_at_call 117; refine(hLt _).mono ?_; rintro e w9 ⟨rfl,rfl⟩) | (go_at_call_of 157 hi; refine(hDg _).mono ?_; rintro e w9 ⟨rfl,rfl⟩) | (go_at_call 157; refine(hDn _).mono ?_; rintro e w9 ⟨rfl,rfl⟩));go_loopw [14] (fun x wr=>∃k:Nat,i+1<=k/\k<=s.size/\x= .int .i64 k/\wr=w9/\Hid (digE s k=digE s (i+1))) (fun x _=>s.size - (intOf x).toNat)
 case atStart=>exact⟨i+1,Nat.le_refl _,by omega,by go_num,rfl,rfl⟩
 case round=>
  obtain⟨k,hk1,hk2,rfl,rfl,HE⟩:=hrel;clear hLt hsg;by_cases hkl:k<s.size
  ·have m1:decide ((k:Int)<(s.size:Int))=true:=Zt;have m2:decide (k<s.size)=true:=decide_eq_true hkl;have mk:IntKind.i64.wrap ((k:Int)+1)=k+1:=IntWalk.i64_in _ Zo;have HXk:Hid (((s[k]'hkl).toNat:Int)=bt s k):=Yq hkl;have hDk:∀w,Calls Tryz.prog 157 #[.int .u8 ((s[k]'hkl).toNat:Int)] w fun e w'=>e= .returned (.bool (cls (bt s k).toNat==3))/\w'=w:=fun w=>by
    rw[HXk.out]; exact YP _ (YB s k) w
   by_cases hd:cls (bt s k).toNat=3
   ·have HE2:Hid (digE s (k+1)=digE s (i+1)):=Zh (by rw[<-HE.out]; exact(YD hkl (by show(cls (bt s k).toNat==3)=true; simpa using hd)).symm);rw[show(cls (bt s k).toNat==3)=true by simpa using hd] at hDk;clear hd;go_wp2_with (first | (go_at_call 157; refine(hDk _).mono ?_; rintro e w9 ⟨rfl,rfl⟩));go_roundw
    case rel=>exact⟨k+1,by omega,by omega,by go_num,by trivial,HE2⟩
    case measure=>simp[intOf]; omega
   ·have HE2:Hid (digE s (i+1)=k):=Zh (by rw[<-HE.out]; exact Yk (by rintro⟨_,q⟩; exact hd (by simpa using q)));rw[show(cls (bt s k).toNat==3)=false by simpa using hd] at hDk;clear hd;have hC2:=HC.out;rw[HE2.out] at hC2;have hCl:=fun w=>clear_any s 4 i k 43 w hs hk2;rw[hC2] at hCl;unfold Yi oneV at hCl;have c1:(0:Int)<=i:=Zo;have c2:(i:Int)<=k:=Zo;have c3:(k:Int)<=s.size:=Zo;clear hC2;go_wp2_with (first | (go_at_call 157; refine(hDk _).mono ?_; rintro e w9 ⟨rfl,rfl⟩));refine(hCl _).mono ?_;rintro e w8 ⟨rfl,hb⟩;obtain⟨hZ,hE,HB,hwz⟩:=YY hb hZ hE HB hwz;clear hb;clear hCl;go_wp2_with (first | (refine YbH rfl rfl rfl rfl hZ ?_) | (refine YbI rfl rfl rfl rfl hE ?_));exact YO rfl rfl rfl rfl rfl hZ hE HB
  ·have m1:decide ((k:Int)<(s.size:Int))=false:=Zf;have HE2:Hid (digE s (i+1)=k):=Zh (by rw[<-HE.out]; exact Yk Zo);have hC2:=HC.out;rw[HE2.out] at hC2;have hCl:=fun w=>clear_any s 4 i k 43 w hs hk2;rw[hC2] at hCl;unfold Yi oneV at hCl;have c1:(0:Int)<=i:=Zo;have c2:(i:Int)<=k:=Zo;have c3:(k:Int)<=s.size:=Zo;clear hC2;go_wp2_with fail;refine(hCl _).mono ?_;rintro e w8 ⟨rfl,hb⟩;obtain⟨hZ,hE,HB,hwz⟩:=YY hb hZ hE HB hwz;clear hb;clear hCl;go_wp2_with (first | (refine YbH rfl rfl rfl rfl hZ ?_) | (refine YbI rfl rfl rfl rfl hE ?_));exact YO rfl rfl rfl rfl rfl hZ hE HB
theorem YmF (s:ByteArray)(i:Nat)(w:World)(hs:s.size<=1000000)(hi:i<s.size)(hq:¬(bt s i=39\/bt s i=34))(h4:¬cls (bt s i).toNat=4)(h36:¬bt s i=36)(h2:¬cls (bt s i).toNat=2)(h3:¬cls (bt s i).toNat=3)(h45:¬bt s i=45)(R:TokR)(hR:tokN s i=R):
 Calls Tryz.prog 135 #[.string s,.int .i64 i] w fun e w'=>e= .returned (oneV i R)/\Below w.heap.size w w':=by
 have HR:=Zh hR;clear hR;have hb0:=YB s i;have hb1:=Jk s i;have l2:decide (i<s.size)=true:=decide_eq_true hi;have wi:IntKind.i64.wrap ((i:Int)+1)=i+1:=IntWalk.i64_in _ Zo;have wi2:IntKind.i64.wrap ((i:Int)+2)=i+2:=IntWalk.i64_in _ Zo;have HX:Hid (((s[i]'hi).toNat:Int)=bt s i):=Yq hi;have hste:¬(steB (bt s i)=true/\bt s (i+1)=46):=by
  rintro⟨q,_⟩;have:=Ygz (s:=s) (i:=i) (fun c=>!steB c||cls c.toNat==2) Yfv;simp only[q,Bool.not_true,Bool.false_or,beq_iff_eq] at this;exact h2 this
 have b39:(((s[i]'hi).toNat:Int)==39)=false:=by rw[HX.out]; exact beq_eq_false_iff_ne.2 Zo
 have b34:(((s[i]'hi).toNat:Int)==34)=false:=by rw[HX.out]; exact beq_eq_false_iff_ne.2 Zo
 have b36:(((s[i]'hi).toNat:Int)==36)=false:=by rw[HX.out]; exact beq_eq_false_iff_ne.2 h36
 have b45:(((s[i]'hi).toNat:Int)==45)=false:=by rw[HX.out]; exact beq_eq_false_iff_ne.2 h45
 have hsg:∀w,Calls Tryz.prog 183 #[.int .u8 ((s[i]'hi).toNat:Int)] w fun e w'=>e= .returned (.bool false)/\w'=w:=fun w=>by
  have:=JC _ (YB s i) w;rw[show(cls (bt s i).toNat==4)=false by simpa using h4] at this;rw[HX.out]; exact this
 have hLt:∀w,Calls Tryz.prog 117 #[.int .u8 ((s[i]'hi).toNat:Int)] w fun e w'=>e= .returned (.bool false)/\w'=w:=fun w=>by
  have:=JB _ (YB s i) w;rw[show(cls (bt s i).toNat==2)=false by simpa using h2] at this;rw[HX.out]; exact this
 have hst:¬bt s i=115/\¬bt s i=116/\¬bt s i=101:=⟨fun q=>h2 (by rw[q]; decide),fun q=>h2 (by rw[q]; decide),fun q=>h2 (by rw[q]; decide)⟩;have b115:(((s[i]'hi).toNat:Int)==115)=false:=by rw[HX.out]; exact beq_eq_false_iff_ne.2 hst.1
 have b116:(((s[i]'hi).toNat:Int)==116)=false:=by rw[HX.out]; exact beq_eq_false_iff_ne.2 hst.2.1
 have b101:(((s[i]'hi).toNat:Int)==101)=false:=by rw[HX.out]; exact beq_eq_false_iff_ne.2 hst.2.2
 have hDg:∀w,Calls Tryz.prog 157 #[.int .u8 ((s[i]'hi).toNat:Int)] w fun e w'=>e= .returned (.bool false)/\w'=w:=fun w=>by
  have:=YP _ (YB s i) w;rw[show(cls (bt s i).toNat==3)=false by simpa using h3] at this;rw[HX.out]; exact this
 have HD:Hid (R= .bad 40 i):=Zh (YcZ HR.out hq h4 hste h2 (by rintro(q | q); exact h3 q; exact h45 q.1) h36);clear hq h4 h36 h2 h3 hst hste hb0 hb1 h45;by_cases hi1:i+1<s.size
 ·have l3:decide ((i:Int)+1<(s.size:Int))=true:=Zt;have l4:decide (i+1<s.size)=true:=decide_eq_true hi1;go_enter Tryz.func135,Tryz.ntmps135;go_wp2_with fail;generalize hW:World.alloc (World.alloc w _) _=W;obtain⟨hZ,hE,HB,hwz⟩:=Y8 hW;clear hW;refine(hsg _).mono ?_;rintro e w7 ⟨rfl,rfl⟩;go_wp2_with (first | (go_at_call 117; refine(hLt _).mono ?_; rintro e w9 ⟨rfl,rfl⟩) | (go_at_call 157; refine(hDg _).mono ?_; rintro e w9 ⟨rfl,rfl⟩) | (refine Yay rfl rfl (rTok) rfl rfl hZ rfl (YN _ _ _) ?_) | (refine Yaz rfl rfl (Yf i 40) rfl rfl hE rfl (YJ _ _) ?_));exact Jh rfl rfl rfl rfl rfl hZ hE HB rfl rfl (x:=.int .i64 i) (by rw[HD.out]; rfl)
 ·have l3:decide ((i:Int)+1<(s.size:Int))=false:=Zf;go_enter Tryz.func135,Tryz.ntmps135;go_wp2_with fail;generalize hW:World.alloc (World.alloc w _) _=W;obtain⟨hZ,hE,HB,hwz⟩:=Y8 hW;clear hW;refine(hsg _).mono ?_;rintro e w7 ⟨rfl,rfl⟩;go_wp2_with (first | (go_at_call 117; refine(hLt _).mono ?_; rintro e w9 ⟨rfl,rfl⟩) | (go_at_call 157; refine(hDg _).mono ?_; rintro e w9 ⟨rfl,rfl⟩) | (refine Yay rfl rfl (rTok) rfl rfl hZ rfl (YN _ _ _) ?_) | (refine Yaz rfl rfl (Yf i 40) rfl rfl hE rfl (YJ _ _) ?_));exact Jh rfl rfl rfl rfl rfl hZ hE HB rfl rfl (x:=.int .i64 i) (by rw[HD.out]; rfl)
theorem Yjw (s:ByteArray)(i:Nat)(w:World)(hs:s.size<=1000000)(hi:i<s.size)(h45:bt s i=45)(h3:¬cls (bt s (i+1)).toNat=3)(R:TokR)(hR:tokN s i=R):
 Calls Tryz.prog 135 #[.string s,.int .i64 i] w fun e w'=>e= .returned (oneV i R)/\Below w.heap.size w w':=by
 have HR:=Zh hR;clear hR;have hb0:=YB s i;have hb1:=Jk s i;have l2:decide (i<s.size)=true:=decide_eq_true hi;have wi:IntKind.i64.wrap ((i:Int)+1)=i+1:=IntWalk.i64_in _ Zo;have wi2:IntKind.i64.wrap ((i:Int)+2)=i+2:=IntWalk.i64_in _ Zo;have HX:Hid (((s[i]'hi).toNat:Int)=bt s i):=Yq hi;have hq:¬(bt s i=39\/bt s i=34):=Zo;have h36:¬bt s i=36:=Zo;have h4:¬cls (bt s i).toNat=4:=by rw[h45]; decide
 have h2:¬cls (bt s i).toNat=2:=by rw[h45]; decide
 have h3':¬cls (bt s i).toNat=3:=by rw[h45]; decide
 have hste:¬(steB (bt s i)=true/\bt s (i+1)=46):=by rw[h45]; rintro⟨q,_⟩; exact absurd q Zd
 have b39:(((s[i]'hi).toNat:Int)==39)=false:=by rw[HX.out]; exact beq_eq_false_iff_ne.2 Zo
 have b34:(((s[i]'hi).toNat:Int)==34)=false:=by rw[HX.out]; exact beq_eq_false_iff_ne.2 Zo
 have b36:(((s[i]'hi).toNat:Int)==36)=false:=by rw[HX.out]; exact beq_eq_false_iff_ne.2 h36
 have b45:(((s[i]'hi).toNat:Int)==45)=true:=by rw[HX.out]; exact beq_iff_eq.2 Zo
 have hsg:∀w,Calls Tryz.prog 183 #[.int .u8 ((s[i]'hi).toNat:Int)] w fun e w'=>e= .returned (.bool false)/\w'=w:=fun w=>by
  have:=JC _ (YB s i) w;rw[show(cls (bt s i).toNat==4)=false by simpa using h4] at this;rw[HX.out]; exact this
 have hLt:∀w,Calls Tryz.prog 117 #[.int .u8 ((s[i]'hi).toNat:Int)] w fun e w'=>e= .returned (.bool false)/\w'=w:=fun w=>by
  have:=JB _ (YB s i) w;rw[show(cls (bt s i).toNat==2)=false by simpa using h2] at this;rw[HX.out]; exact this
 have hst:¬bt s i=115/\¬bt s i=116/\¬bt s i=101:=⟨fun q=>h2 (by rw[q]; decide),fun q=>h2 (by rw[q]; decide),fun q=>h2 (by rw[q]; decide)⟩;have b115:(((s[i]'hi).toNat:Int)==115)=false:=by rw[HX.out]; exact beq_eq_false_iff_ne.2 hst.1
 have b116:(((s[i]'hi).toNat:Int)==116)=false:=by rw[HX.out]; exact beq_eq_false_iff_ne.2 hst.2.1
 have b101:(((s[i]'hi).toNat:Int)==101)=false:=by rw[HX.out]; exact beq_eq_false_iff_ne.2 hst.2.2
 have hDg:∀w,Calls Tryz.prog 157 #[.int .u8 ((s[i]'hi).toNat:Int)] w fun e w'=>e= .returned (.bool false)/\w'=w:=fun w=>by
  have:=YP _ (YB s i) w;rw[show(cls (bt s i).toNat==3)=false by rw[h45]; rfl] at this;rw[HX.out]; exact this
 have HD:Hid (R= .bad 40 i):=Zh (YcZ HR.out hq h4 hste h2 (by rintro(q | q); exact h3' q; exact h3 q.2) h36);clear hq h4 h36 h2 h3' hst hste hb0 hb1 h45;by_cases hi1:i+1<s.size
 ·have l3:decide ((i:Int)+1<(s.size:Int))=true:=Zt;have l4:decide (i+1<s.size)=true:=decide_eq_true hi1;have HX1:Hid (((s[i+1]'hi1).toNat:Int)=bt s (i+1)):=Yq hi1;have hDn:∀w,Calls Tryz.prog 157 #[.int .u8 ((s[i+1]'hi1).toNat:Int)] w fun e w'=>e= .returned (.bool false)/\w'=w:=fun w=>by
   have:=YP _ (YB s (i+1)) w;rw[show(cls (bt s (i+1)).toNat==3)=false by simpa using h3] at this;rw[HX1.out]; exact this
  clear h3;go_enter Tryz.func135,Tryz.ntmps135;go_wp2_with fail;generalize hW:World.alloc (World.alloc w _) _=W;obtain⟨hZ,hE,HB,hwz⟩:=Y8 hW;clear hW;refine(hsg _).mono ?_;rintro e w7 ⟨rfl,rfl⟩;go_wp2_with (first | (go_at_call 117; refine(hLt _).mono ?_; rintro e w9 ⟨rfl,rfl⟩) | (go_at_call_of 157 hi; refine(hDg _).mono ?_; rintro e w9 ⟨rfl,rfl⟩) | (go_at_call 157; refine(hDn _).mono ?_; rintro e w9 ⟨rfl,rfl⟩) | (refine Yay rfl rfl (rTok) rfl rfl hZ rfl (YN _ _ _) ?_) | (refine Yaz rfl rfl (Yf i 40) rfl rfl hE rfl (YJ _ _) ?_));exact Jh rfl rfl rfl rfl rfl hZ hE HB rfl rfl (x:=.int .i64 i) (by rw[HD.out]; rfl)
 ·have l3:decide ((i:Int)+1<(s.size:Int))=false:=Zf;have hDn:∀w,Calls Tryz.prog 157 #[.int .u8 0] w fun e w'=>e= .returned (.bool false)/\w'=w:=fun w=>by
   exact YP 0 Zd w
  clear h3;go_enter Tryz.func135,Tryz.ntmps135;go_wp2_with fail;generalize hW:World.alloc (World.alloc w _) _=W;obtain⟨hZ,hE,HB,hwz⟩:=Y8 hW;clear hW;refine(hsg _).mono ?_;rintro e w7 ⟨rfl,rfl⟩;go_wp2_with (first | (go_at_call 117; refine(hLt _).mono ?_; rintro e w9 ⟨rfl,rfl⟩) | (go_at_call_of 157 hi; refine(hDg _).mono ?_; rintro e w9 ⟨rfl,rfl⟩) | (go_at_call 157; refine(hDn _).mono ?_; rintro e w9 ⟨rfl,rfl⟩) | (refine Yay rfl rfl (rTok) rfl rfl hZ rfl (YN _ _ _) ?_) | (refine Yaz rfl rfl (Yf i 40) rfl rfl hE rfl (YJ _ _) ?_));exact Jh rfl rfl rfl rfl rfl hZ hE HB rfl rfl (x:=.int .i64 i) (by rw[HD.out]; rfl)
end Go.Proofs.YteamjdmhdfjopaaGreatDoor
