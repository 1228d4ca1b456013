/- A part of the proof; it holds the texts Names Rb Rc Rd Qx Esc Bld Blo Tca Tcb Tcc (names and blanks shortened). -/
import Derived.Test.YteamjdmhdfjopaaGreatDoorM3
import Derived.Test.YteamjdmhdfjopaaGreatDoorM8
import Derived.RegionCalls
import Derived.OwnWalk
import Derived.Test.YteamjdmhdfjopaaGreatDoorM1
import Derived.Test.YteamjdmhdfjopaaGreatDoorM2
import Derived.Lib.Builder
import Derived.Lib.AppendStr
import Derived.Laws.Externs
import Derived.Test.YteamjdmhdfjopaaGreatDoorM4
namespace Go.Proofs.YteamjdmhdfjopaaGreatDoor
open Go.RowKit
set_option maxRecDepth 100000
set_option maxHeartbeats 8000000
set_option linter.unusedVariables false
set_option linter.unusedSimpArgs false
def Yf2:Array Value:=#[.string ⟨#[]⟩,.int .i64 0]++YaE++#[.slice none 0 0]
theorem YhI (w:World):(zeroValue 133).run Tryz.prog w= .ok (.agg Yf2) w:=by kernel_rfl
def Yaf (s:ByteArray):Array Value:=((List.range 259).map (YaK s 0 (.slice none 0 0))).toArray
theorem YaY (s:ByteArray):(Yaf s).size=259:=by simp[Yaf]
theorem YgE:Yf2.size=259:=by simp[Yf2,YaV]
theorem Yet (s:ByteArray)(i:Nat)(h:i<259):(Yaf s)[i]? =some (YaK s 0 (.slice none 0 0) i):=by simp[Yaf,h]
theorem YfA (s:ByteArray):Tryz.prog.built 133 [(0,.string s),(2,.agg YaD)]=some (Yaf s):=by kernel_rfl
theorem Ykx (s:ByteArray):(Tryz.prog.info? 133).map (·.size)=some (Yaf s).size:=by rw[YaY]; kernel_rfl
theorem Yjk (s:ByteArray):(Yaf s).all (·.oneCell')=true:=by
 simp only[Yaf,List.all_toArray,List.all_map,List.all_eq_true,Function.comp];intro i _;unfold YaK;repeat' split
 all_goals rfl
theorem YiE (w:World)(s:ByteArray):YF w.heap.size s 0 (.slice none 0 0) (w.alloc (.cells (Yaf s) 133)):=by
 have h:=World.rowIs_alloc w (Yaf s) 133 (YaK s 0 (.slice none 0 0)) (fun i hi=>Yet s i (by rwa [YaY] at hi));rwa [YaY] at h
theorem Ydb (s:ByteArray)(w:World):
 Calls Tryz.prog 174 #[.string s] w fun e w'=>e= .returned (.bool (YbU s))/\w'=w:=by
 go_enter Tryz.func174,Tryz.ntmps174;go_wp2;all_goals go_ret
 all_goals
  refine⟨?_,rfl⟩;unfold YbU;first
  |rfl
  |(
    have hp:s.toList=[36,69,78,84,82,89]:=by assumption
    simp[hp]; done)
theorem Jp {s:ByteArray}(h:s.size≠0):s.toList≠[]:=by
 intro e;apply h;have:=congrArg List.length e;simpa[Lib.toList_data] using this
theorem YnM (m n:Nat):((m:Int)==n)=decide (m=n):=by rw[Bool.eq_iff_iff]; simp; omega
theorem YeT {s:ByteArray}{x:Nat}{v:Int}{b:Bool}(h0:¬s.toList=[])(h1:s.size<=60)(hb:(x:Int)=bt s 0)(hv:cls x=v)(h:b=((v==2)&&decide (Yo s (inner Yj) 1=s.size))):
 Ending.returned (.bool b)= .returned (.bool (Jb s)):=by
 have h2:s.size≠0:=by
  intro e; apply h0; obtain rfl:s=ByteArray.empty:=by simpa using e
  simp[Lib.toList_data]
 subst hv h;simp[Jb,h2,h1,<-hb]
theorem YjO (s:ByteArray)(w:World):
 Calls Tryz.prog 99 #[.string s] w fun e w'=>e= .returned (.bool (Jb s))/\Below w.heap.size w w':=by
 by_cases h0:s.size=0
 ·obtain rfl:s=ByteArray.empty:=by simpa using h0
  have HR:Hid (Jb ByteArray.empty=false):=by simp[Jb,Hid]
  go_enter Tryz.func99,Tryz.ntmps99;go_wp2;go_ret;exact⟨by rw[HR.out]; rfl,Below.refl _ _⟩
 ·have hl:¬s.toList=[]:=Jp h0;have hl2:s.toList.isEmpty=false:=by simpa using hl
  by_cases h1:s.size<=60
  ·have hlt:0<s.size:=by omega
   have hx1:(s[0]'hlt).toNat<256:=(s[0]).toNat_lt;have HB:Hid (((s[0]'hlt).toNat:Int)=bt s 0):=Yq hlt;have hc:(Yaf s)[2+(s[0]'hlt).toNat]? =some (.int .i64 (cls (s[0]'hlt).toNat)):=by
    rw[Yet s _ Zo]; unfold YaK; rw[if_neg Zo,if_neg Zo,if_pos Zo]; congr 3; omega
   generalize hv:cls (s[0]'hlt).toNat=v at hc;have HV:=Zh hv;clear hv;clear h0;go_enter Tryz.func99,Tryz.ntmps99;go_wp2_with fail;refine(Ye3 _).mono ?_;rintro e w1 ⟨rfl,hb1⟩;go_wp2_with (refine Yfb 133 #[(0,.tmp 11),(2,.tmp 12)] 13 3 (by exact⟨rfl,rfl,rfl⟩) (by exact⟨rfl,rfl,rfl⟩) (by exact⟨rfl,rfl,rfl⟩) Zd Zs Zs [(0,.string s),(2,.agg YaD)] (by simp[Act.eval]) (Yaf s) (YfA s) Yf2 YhI (Ykx s) (by rw[YgE,YaY]) (Yjk s) ?_)
   ·have hv:v=2:=by assumption
    have hr:=run_any w1.heap.size s Yj 0 1 (.slice none 0 0) _ Zo Zo (YiE w1 s);generalize hm:Yo s (inner Yj) 1=m at hr;have HM:=Zh hm;clear hm;refine hr.mono ?_;rintro e w2 ⟨rfl,nq,rfl⟩;clear hr;go_wp2;go_ret;exact⟨YeT hl h1 HB.out HV.out (by rw[HM.out,<-YnM]; simp[hv]),below_drewN (hb1.alloc hb1.size _) _⟩
   ·have hv:¬v=2:=by assumption
    go_ret;exact⟨YeT hl h1 HB.out HV.out (by simp[hv]),hb1.alloc hb1.size _⟩
  ·have hgt:60<s.size:=by omega
   have HR:Hid (Jb s=false):=by simp[Jb,Hid,h1]
   go_enter Tryz.func99,Tryz.ntmps99;go_wp2;go_ret;exact⟨by rw[HR.out]; rfl,Below.refl _ _⟩
theorem Y5 (s:ByteArray)(p:Int->Bool):∀(n i:Nat),s.size - i=n->i<=s.size->(Yo s p i=s.size↔∀j,i<=j->j<s.size->p (bt s j)=true)
 |
  0,i,hn,hi=>by
  rw[Yk Zo];exact⟨fun _ j h1 h2=>by omega,fun _=>by omega⟩
 |
  n+1,i,hn,hi=>by
  by_cases hp:p (bt s i)=true
  ·rw[YD Zo hp,Y5 s p n (i+1) Zo Zo];exact⟨fun h j h1 h2=>by
    by_cases e:j=i
    ·rw[e]; exact hp
    ·exact h j Zo h2,fun h j h1 h2=>h j Zo h2⟩
  ·rw[Yk (by intro q; exact hp q.2)];exact⟨fun h=>by omega,fun h=>absurd (h i (Nat.le_refl _) Zo) hp⟩
theorem Ydz {s:ByteArray}{p:Int->Bool}{i:Nat}(hi:i<=s.size)(h:∀j,i<=j->j<s.size->p (bt s j)=true):decide (Yo s p i=s.size)=true:=
 decide_eq_true ((Y5 s p _ i rfl hi).2 h)
theorem Yev {s:ByteArray}{p:Int->Bool}{i j:Nat}(hi:i<=j)(hj:j<s.size)(h:p (bt s j)=false):decide (Yo s p i=s.size)=false:=
 decide_eq_false fun q=>by
  have:=(Y5 s p _ i rfl Zo).1 q j hi hj;rw[h] at this; cases this
def YC (n:Int)(s:ByteArray):Bool:=decide (s.size≠0)&&decide ((s.size:Int)<=n)&&(cls (bt s 0).toNat==2)&&decide (Yo s (inner Yj) 1=s.size)
theorem YjC (s:ByteArray):YC 60 s=Jb s:=by
 unfold YC Jb;have:decide ((s.size:Int)<=60)=decide (s.size<=60):=by rw[decide_eq_decide]; omega
 rw[this]
def YaJ (c:Int):Bool:=decide (32<=c)&&decide (c<=126)
def Ja (s:ByteArray):Bool:=decide (s.size≠0)&&decide (s.size<=60)&&decide (Yo s YaJ 0=s.size)
def J6 (s:ByteArray):Bool:=decide (s.size≠0)&&decide (s.size<=40)&&decide (Yo s (inner JI) 0=s.size)
theorem YdF (c:Int)(h0:0<=c)(h1:c<=255)(w:World):
 Calls Tryz.prog 118 #[.int .u8 c] w fun e w'=>e= .returned (.bool (inner Yj c))/\w'=w:=by
 have hL:=fun w=>JB c h0 w;have hD:=fun w=>YP c h0 w;rw[YiR c h0 h1];generalize(cls c.toNat==2)=L at hL;generalize(cls c.toNat==3)=D at hD;go_enter Tryz.func118,Tryz.ntmps118;cases L with
 |
  true=>
  go_wp2_with (first | (go_at_call 117; refine(hL _).mono ?_; rintro e w' ⟨rfl,rfl⟩) | (go_at_call 157; refine(hD _).mono ?_; rintro e w' ⟨rfl,rfl⟩));all_goals go_ret
  all_goals (refine⟨?_,rfl⟩; simp_all)
 |
  false=>
  cases D<;>
  ·go_wp2_with (first | (go_at_call 117; refine(hL _).mono ?_; rintro e w' ⟨rfl,rfl⟩) | (go_at_call 157; refine(hD _).mono ?_; rintro e w' ⟨rfl,rfl⟩));all_goals go_ret
   all_goals (refine⟨?_,rfl⟩; simp_all)
theorem Yh1 (s:ByteArray)(n:Int)(w:World)(hn:0<=n)(hn2:n<=1000):
 Calls Tryz.prog 71 #[.string s,.int .i64 n] w fun e w'=>e= .returned (.bool (YC n s))/\w'=w:=by
 by_cases h0:s.size=0
 ·obtain rfl:s=ByteArray.empty:=by simpa using h0
  have HR:Hid (YC n ByteArray.empty=false):=by simp[YC,Hid]
  go_enter Tryz.func71,Tryz.ntmps71;go_wp2;go_ret;exact⟨by rw[HR.out]; rfl,rfl⟩
 ·have hl:¬s.toList=[]:=Jp h0;have hl2:s.toList.isEmpty=false:=by simpa using hl
  have hlt:0<s.size:=Zo;by_cases h1:(s.size:Int)<=n
  ·have g1:decide (n<(s.size:Int))=false:=Zf;have hB:=Yq hlt;have hL:=fun w=>JB ((s[0]'hlt).toNat:Int) Zo w;rw[hB] at hL;have l0:decide (0<s.size)=true:=decide_eq_true hlt;by_cases hc:(cls (bt s 0).toNat==2)=true
   ·rw[hc] at hL;have HB:=Zh hB;have HC:=Zh hc;clear hB hc;go_enter Tryz.func71,Tryz.ntmps71;go_wp2_with fail;rw[HB.out];refine(hL _).mono ?_;rintro e w' ⟨rfl,rfl⟩;have HRB:Hid (YC n s=decide (Yo s (inner Yj) 1=s.size)):=Zh (by unfold YC; rw[HC.out,decide_eq_true h0,decide_eq_true h1]; rfl);clear hL;go_wp2;go_loopw [5] (fun i wr=>∃k:Nat,k<=s.size/\i= .int .i64 k/\wr=w'/\Hid (∀j,j<k->inner Yj (bt s j)=true)) (fun i _=>s.size - (intOf i).toNat)
    case atStart=>exact⟨0,Nat.zero_le _,rfl,rfl,Zh fun j hj=>by omega⟩
    case round=>
     obtain⟨k,hk,rfl,rfl,HK⟩:=hrel;by_cases hkl:k<s.size
     ·have l1:decide ((k:Int)<(s.size:Int))=true:=Zt;have l2:decide (k<s.size)=true:=decide_eq_true hkl;have wk:IntKind.i64.wrap ((k:Int)+1)=k+1:=IntWalk.i64_in _ Zo;have HX:=Zh (Yq hkl);have hI:=fun w=>YdF (bt s k) (YB s k) (Jk s k) w;by_cases hi:inner Yj (bt s k)=true
      ·rw[hi] at hI;have HI:=Zh hi;clear hi;go_wp2_with fail;rw[HX.out];refine(hI _).mono ?_;rintro e w' ⟨rfl,rfl⟩;clear hI;go_wp2;go_roundw
       case rel=>exact⟨k+1,by omega,by go_num,by trivial,Zh fun j hj=>by
        by_cases e:j=k
        ·rw[e]; exact HI.out
        ·exact HK.out j Zo⟩
       case measure=>simp[intOf]; omega
      ·have hi2:inner Yj (bt s k)=false:=by simpa using hi
       rw[hi2] at hI;have HI:=Zh hi2;clear hi hi2;go_wp2_with fail;rw[HX.out];refine(hI _).mono ?_;rintro e w' ⟨rfl,rfl⟩;clear hI;go_wp2;go_ret;have hk1:1<=k:=by
        rcases Nat.eq_zero_or_pos k with e | e
        ·subst e;have:=HI.out;rw[YiR _ (YB s 0) (Jk s 0),HC.out] at this;simp at this
        ·exact e
       exact⟨by rw[HRB.out,Yev hk1 hkl HI.out]; rfl,rfl⟩
     ·have l1:decide ((k:Int)<(s.size:Int))=false:=Zf;go_wp2;go_ret;exact⟨by rw[HRB.out,Ydz Zo (fun j h1 h2=>HK.out j Zo)]; rfl,rfl⟩
   ·have hc2:(cls (bt s 0).toNat==2)=false:=by simpa using hc
    rw[hc2] at hL;have HRB:Hid (YC n s=false):=Zh (by unfold YC; rw[hc2]; simp);have HB:=Zh hB;clear hB hc hc2;go_enter Tryz.func71,Tryz.ntmps71;go_wp2_with fail;rw[HB.out];refine(hL _).mono ?_;rintro e w' ⟨rfl,rfl⟩;go_wp2;go_ret;exact⟨by rw[HRB.out]; rfl,rfl⟩
  ·have g1:decide (n<(s.size:Int))=true:=Zt;have HRB:Hid (YC n s=false):=Zh (by unfold YC; rw[decide_eq_false h1]; simp);go_enter Tryz.func71,Tryz.ntmps71;go_wp2;go_ret;exact⟨by rw[HRB.out]; rfl,rfl⟩
theorem YcS (s:ByteArray)(w:World)(hs:s.size<=1000000):
 Calls Tryz.prog 182 #[.string s] w fun e w'=>e= .returned (.bool (Ja s))/\w'=w:=by
 go_enter Tryz.func182,Tryz.ntmps182;go_wp2;go_loopw [3] (fun i wr=>∃k:Nat,k<=s.size/\i= .int .i64 k/\wr=w/\Hid (∀j,j<k->YaJ (bt s j)=true)) (fun i _=>s.size - (intOf i).toNat)
 case atStart=>exact⟨0,Nat.zero_le _,rfl,rfl,Zh fun j hj=>by omega⟩
 case round=>
  obtain⟨k,hk,rfl,rfl,HK⟩:=hrel;by_cases hkl:k<s.size
  ·have l1:decide ((k:Int)<(s.size:Int))=true:=Zt;have l2:decide (k<s.size)=true:=decide_eq_true hkl;have wk:IntKind.i64.wrap ((k:Int)+1)=k+1:=IntWalk.i64_in _ Zo;have HX:=Zh (Yq hkl);by_cases hi:YaJ (bt s k)=true
   ·have HI:=Zh hi;have hi2:=hi;unfold YaJ at hi2;simp only[Bool.and_eq_true,decide_eq_true_eq] at hi2;have d1:decide (((s[k]'hkl).toNat:Int)<32)=false:=decide_eq_false (by rw[HX.out]; omega);have d2:decide ((126:Int)<((s[k]'hkl).toNat:Int))=false:=decide_eq_false (by rw[HX.out]; omega);clear hi hi2;go_wp2;go_roundw
    case rel=>exact⟨k+1,by omega,by go_num,by trivial,Zh fun j hj=>by
     by_cases e:j=k
     ·rw[e]; exact HI.out
     ·exact HK.out j Zo⟩
    case measure=>simp[intOf]; omega
   ·have hi2:YaJ (bt s k)=false:=by simpa using hi
    have HI:=Zh hi2;have HF:Hid (Ja s=false):=Zh (by unfold Ja; rw[Yev (Nat.zero_le k) hkl hi2]; simp);have hor:bt s k<32\/126<bt s k:=by
     unfold YaJ at hi2;simp only[Bool.and_eq_false_iff,decide_eq_false_iff_not] at hi2;omega
    clear hi hi2;rcases hor with hor | hor
    ·have d1:decide (((s[k]'hkl).toNat:Int)<32)=true:=decide_eq_true (by rw[HX.out]; omega);clear hor;go_wp2;go_ret;exact⟨by rw[HF.out]; rfl,rfl⟩
    ·have d1:decide (((s[k]'hkl).toNat:Int)<32)=false:=decide_eq_false (by rw[HX.out]; omega);have d2:decide ((126:Int)<((s[k]'hkl).toNat:Int))=true:=decide_eq_true (by rw[HX.out]; omega);clear hor;go_wp2;go_ret;exact⟨by rw[HF.out]; rfl,rfl⟩
  ·have l1:decide ((k:Int)<(s.size:Int))=false:=Zf;obtain rfl:k=s.size:=Zo;have HW:Hid (Ja s=(decide (s.size≠0)&&decide (s.size<=60))):=Zh (by unfold Ja; rw[Ydz (Nat.zero_le _) (fun j h1 h2=>HK.out j Zo)]; simp);by_cases h0:s.size=0
   ·obtain rfl:s=ByteArray.empty:=by simpa using h0
    go_wp2;go_ret;exact⟨by rw[HW.out]; rfl,rfl⟩
   ·have hl:¬s.toList=[]:=Jp h0;have hl2:s.toList.isEmpty=false:=by simpa using hl
    by_cases h1:s.size<=60
    ·have g1:decide ((s.size:Int)<=60)=true:=Zt;go_wp2;go_ret;exact⟨by rw[HW.out]; simp[h0,h1],rfl⟩
    ·have g1:decide ((s.size:Int)<=60)=false:=Zf;go_wp2;go_ret;exact⟨by rw[HW.out]; simp[h1],rfl⟩
theorem Yng (s:ByteArray)(i j:Nat):bt (s.extract i s.size) j=bt s (i+j):=by
 by_cases h:i+j<s.size
 ·have hz:j<(s.extract i s.size).size:=by rw[ByteArray.size_extract]; omega
  rw[<-Yq h,<-Yq hz,ByteArray.getElem_extract]
 ·rw[JU (s:=s) Zo,JU (by rw[ByteArray.size_extract]; omega)]
theorem ext_size (s:ByteArray)(i:Nat):(s.extract i s.size).size=s.size - i:=by rw[ByteArray.size_extract]; omega
theorem Ykz (s:ByteArray)(p:Int->Bool)(i:Nat)(hi:i<=s.size):decide (Yo (s.extract i s.size) p 0=(s.extract i s.size).size)=decide (Yo s p i=s.size):=by
 rw[decide_eq_decide,Y5 _ p _ 0 rfl (Nat.zero_le _),Y5 s p _ i rfl hi,ext_size];constructor
 ·intro h j h1 h2;have:=h (j - i) (Nat.zero_le _) Zo;rw[Yng,show i+(j - i)=j by omega] at this;exact this
 ·intro h j h1 h2;rw[Yng]; exact h (i+j) Zo Zo
def digP (c:Int):Bool:=cls c.toNat==3
def YaB (d:ByteArray):Bool:=decide (d.size≠0)&&decide (d.size<=500)&&decide (Yo d digP 0=d.size)&&(bt d 0 != 48)
def numT (s:ByteArray):ByteArray:=if bt s 0=45 then s.extract 1 s.size else s
def YbT (s:ByteArray):Bool:=s.toList==[48]||YaB (numT s)
theorem YfF (s:ByteArray)(w:World)(hs:s.size<=1000000):
 Calls Tryz.prog 228 #[.string s] w fun e w'=>e= .returned (.bool (J6 s))/\w'=w:=by
 go_enter Tryz.func228,Tryz.ntmps228;go_wp2;go_loopw [3] (fun i wr=>∃k:Nat,k<=s.size/\i= .int .i64 k/\wr=w/\Hid (∀j,j<k->inner JI (bt s j)=true)) (fun i _=>s.size - (intOf i).toNat)
 case atStart=>exact⟨0,Nat.zero_le _,rfl,rfl,Zh fun j hj=>by omega⟩
 case round=>
  obtain⟨k,hk,rfl,rfl,HK⟩:=hrel;by_cases hkl:k<s.size
  ·have l1:decide ((k:Int)<(s.size:Int))=true:=Zt;have l2:decide (k<s.size)=true:=decide_eq_true hkl;have wk:IntKind.i64.wrap ((k:Int)+1)=k+1:=IntWalk.i64_in _ Zo;have HX:=Zh (Yq hkl);have hin:=YjD (bt s k) (YB s k) (Jk s k);have hL:∀w,Calls Tryz.prog 117 #[.int .u8 ((s[k]'hkl).toNat:Int)] w fun e w'=>e= .returned (.bool (cls (bt s k).toNat==2))/\w'=w:=fun w=>by
    rw[HX.out]; exact JB _ (YB s k) w
   have hD:∀w,Calls Tryz.prog 157 #[.int .u8 ((s[k]'hkl).toNat:Int)] w fun e w'=>e= .returned (.bool (cls (bt s k).toNat==3))/\w'=w:=fun w=>by
    rw[HX.out]; exact YP _ (YB s k) w
   generalize(cls (bt s k).toNat==2)=L at hin hL;generalize(cls (bt s k).toNat==3)=D at hin hD;by_cases hor:(L||D)=true
   ·have HI:Hid (inner JI (bt s k)=true):=Zh (hin.trans hor);clear hin;have hLD:L=true\/(L=false/\D=true):=by cases L<;>cases D<;>simp_all
    clear hor;rcases hLD with rfl | ⟨rfl,rfl⟩
    ·go_wp2_with (first | (go_at_call 117; refine(hL _).mono ?_; rintro e w' ⟨rfl,rfl⟩) | (go_at_call 157; refine(hD _).mono ?_; rintro e w' ⟨rfl,rfl⟩));go_roundw
     case rel=>exact⟨k+1,by omega,by go_num,by trivial,Zh fun j hj=>by
      by_cases e:j=k
      ·rw[e]; exact HI.out
      ·exact HK.out j Zo⟩
     case measure=>simp[intOf]; omega
    ·go_wp2_with (first | (go_at_call 117; refine(hL _).mono ?_; rintro e w' ⟨rfl,rfl⟩) | (go_at_call 157; refine(hD _).mono ?_; rintro e w' ⟨rfl,rfl⟩));go_roundw
     case rel=>exact⟨k+1,by omega,by go_num,by trivial,Zh fun j hj=>by
      by_cases e:j=k
      ·rw[e]; exact HI.out
      ·exact HK.out j Zo⟩
     case measure=>simp[intOf]; omega
   ·obtain⟨rfl,rfl⟩:L=false/\D=false:=by cases L<;>cases D<;>simp_all
    have HF:Hid (J6 s=false):=Zh (by unfold J6; rw[Yev (Nat.zero_le k) hkl hin]; simp);clear hor hin;go_wp2_with (first | (go_at_call 117; refine(hL _).mono ?_; rintro e w' ⟨rfl,rfl⟩) | (go_at_call 157; refine(hD _).mono ?_; rintro e w' ⟨rfl,rfl⟩));go_ret;exact⟨by rw[HF.out]; rfl,rfl⟩
  ·have l1:decide ((k:Int)<(s.size:Int))=false:=Zf;obtain rfl:k=s.size:=Zo;have HW:Hid (J6 s=(decide (s.size≠0)&&decide (s.size<=40))):=Zh (by unfold J6; rw[Ydz (Nat.zero_le _) (fun j h1 h2=>HK.out j Zo)]; simp);by_cases h0:s.size=0
   ·obtain rfl:s=ByteArray.empty:=by simpa using h0
    go_wp2;go_ret;exact⟨by rw[HW.out]; rfl,rfl⟩
   ·have hl:¬s.toList=[]:=Jp h0;have hl2:s.toList.isEmpty=false:=by simpa using hl
    by_cases h1:s.size<=40
    ·have g1:decide ((s.size:Int)<=40)=true:=Zt;go_wp2;go_ret;exact⟨by rw[HW.out]; simp[h0,h1],rfl⟩
    ·have g1:decide ((s.size:Int)<=40)=false:=Zf;go_wp2;go_ret;exact⟨by rw[HW.out]; simp[h1],rfl⟩
theorem Ygo (s:ByteArray)(w:World)(hs:s.size<=1000000):
 Calls Tryz.prog 248 #[.string s] w fun e w'=>e= .returned (.bool (YbT s))/\w'=w:=by
 by_cases h48:s.toList=[48]
 ·have HR:Hid (YbT s=true):=Zh (by unfold YbT; rw[h48]; rfl);go_enter Tryz.func248,Tryz.ntmps248;go_wp2;go_ret;exact⟨by rw[HR.out]; rfl,rfl⟩
 ·have HR0:Hid (YbT s=YaB (numT s)):=Zh (by unfold YbT; rw[show(s.toList==[48])=false by simpa using h48]; rfl);have b48:(s.toList==[48])=false:=by simpa using h48
  by_cases h45:bt s 0=45
  ·have hlt:0<s.size:=by
    rcases Nat.eq_zero_or_pos s.size with e | e
    ·rw[JU Zo] at h45; cases h45
    ·exact e
   have hl:¬s.toList=[]:=Jp Zo;have hl2:s.toList.isEmpty=false:=by simpa using hl
   have l0:decide (0<s.size)=true:=decide_eq_true hlt;have HB:((s[0]'hlt).toNat:Int)=45:=(Yq hlt).trans h45;have HR1:numT s=s.extract 1 s.size:=by unfold numT; rw[if_pos h45]
   have hsz:=ext_size s 1;have c1:(1:Int)<=s.size:=Zo;have HR:Hid (YbT s=YaB (s.extract 1 s.size)):=Zh (by rw[HR0.out,HR1]);clear h45 HR1;go_enter Tryz.func248,Tryz.ntmps248;go_wp2;generalize s.extract 1 s.size=d at HR hsz;go_wp2;go_loopw [3] (fun i wr=>∃k:Nat,k<=d.size/\i= .int .i64 k/\wr=w/\Hid (∀j,j<k->digP (bt d j)=true)) (fun i _=>d.size - (intOf i).toNat)
   case atStart=>exact⟨0,Nat.zero_le _,rfl,rfl,Zh fun j hj=>by omega⟩
   case round=>
    obtain⟨k,hk,rfl,rfl,HK⟩:=hrel;by_cases hkl:k<d.size
    ·have l1:decide ((k:Int)<(d.size:Int))=true:=Zt;have l2:decide (k<d.size)=true:=decide_eq_true hkl;have wk:IntKind.i64.wrap ((k:Int)+1)=k+1:=IntWalk.i64_in _ Zo;have HX:=Zh (Yq hkl);by_cases hi:digP (bt d k)=true
     ·have hD:∀w,Calls Tryz.prog 157 #[.int .u8 ((d[k]'hkl).toNat:Int)] w fun e w'=>e= .returned (.bool true)/\w'=w:=fun w=>by
       rw[HX.out,<-hi]; exact YP _ (YB d k) w
      have HI:=Zh hi;clear hi;go_wp2_with (go_at_call 157; refine(hD _).mono ?_; rintro e w' ⟨rfl,rfl⟩);go_roundw
      case rel=>exact⟨k+1,by omega,by go_num,by trivial,Zh fun j hj=>by
       by_cases e:j=k
       ·rw[e]; exact HI.out
       ·exact HK.out j Zo⟩
      case measure=>simp[intOf]; omega
     ·have hi2:digP (bt d k)=false:=by simpa using hi
      have hD:∀w,Calls Tryz.prog 157 #[.int .u8 ((d[k]'hkl).toNat:Int)] w fun e w'=>e= .returned (.bool false)/\w'=w:=fun w=>by
       rw[HX.out,<-hi2]; exact YP _ (YB d k) w
      have HF:Hid (YaB d=false):=Zh (by unfold YaB; rw[Yev (Nat.zero_le k) hkl hi2]; simp);clear hi hi2;go_wp2_with (go_at_call 157; refine(hD _).mono ?_; rintro e w' ⟨rfl,rfl⟩);go_ret;exact⟨by rw[HR.out,HF.out]; rfl,rfl⟩
    ·have l1:decide ((k:Int)<(d.size:Int))=false:=Zf;obtain rfl:k=d.size:=Zo;have HW:Hid (YaB d=(decide (d.size≠0)&&decide (d.size<=500)&&(bt d 0 != 48))):=Zh (by unfold YaB; rw[Ydz (Nat.zero_le _) (fun j h1 h2=>HK.out j Zo),Bool.and_true]);by_cases h0:d.size=0
     ·obtain rfl:d=ByteArray.empty:=by simpa using h0
      go_wp2;go_ret;exact⟨by rw[HR.out,HW.out]; rfl,rfl⟩
     ·have hl:¬d.toList=[]:=Jp h0;have hl2:d.toList.isEmpty=false:=by simpa using hl
      have hlt:0<d.size:=Zo;have l0:decide (0<d.size)=true:=decide_eq_true hlt;by_cases h1:d.size<=500
      ·have g1:decide ((d.size:Int)<=500)=true:=Zt;have HB:=Zh (Yq hlt);have HQ:Hid (YaB d=(((d[0]'hlt).toNat:Int) != 48)):=Zh (by rw[HW.out,decide_eq_true h0,decide_eq_true h1,HB.out]; rfl);by_cases h48:((d[0]'hlt).toNat:Int)=48
       ·go_wp2;go_ret;exact⟨by rw[HR.out,HQ.out,h48]; rfl,rfl⟩
       ·have n48:(((d[0]'hlt).toNat:Int) != 48)=true:=by rw[bne_iff_ne]; exact h48
        have n48':(((d[0]'hlt).toNat:Int)==48)=false:=by rw[beq_eq_false_iff_ne]; exact h48
        go_wp2;go_ret;exact⟨by rw[HR.out,HQ.out,n48]; rfl,rfl⟩
      ·have g1:decide ((d.size:Int)<=500)=false:=Zf;go_wp2;go_ret;exact⟨by rw[HR.out,HW.out]; simp[h1],rfl⟩
  ·have HR1:numT s=s:=by unfold numT; rw[if_neg h45]
   have HR:Hid (YbT s=YaB s):=Zh (by rw[HR0.out,HR1]);clear HR1 HR0;obtain⟨d,hd⟩:∃d,d=s:=⟨s,rfl⟩;subst hd;by_cases h0:d.size=0
   ·obtain rfl:d=ByteArray.empty:=by simpa using h0
    have HF:Hid (YaB ByteArray.empty=false):=Zh (by unfold YaB; rfl);go_enter Tryz.func248,Tryz.ntmps248;go_wp2;go_loopw [3] (fun i wr=>i= .int .i64 0/\wr=w) (fun i _=>0)
    case atStart=>exact⟨rfl,rfl⟩
    case round=>
     obtain⟨rfl,rfl⟩:=hrel;go_wp2;go_ret;exact⟨by rw[HR.out,HF.out]; rfl,rfl⟩
   have hl:¬d.toList=[]:=Jp h0;have hl2:d.toList.isEmpty=false:=by simpa using hl
   have hlt:0<d.size:=Zo;have l0:decide (0<d.size)=true:=decide_eq_true hlt;have n45:(((d[0]'hlt).toNat:Int)==45)=false:=by rw[beq_eq_false_iff_ne,Yq hlt]; exact h45
   clear h45;go_enter Tryz.func248,Tryz.ntmps248;go_wp2;go_loopw [3] (fun i wr=>∃k:Nat,k<=d.size/\i= .int .i64 k/\wr=w/\Hid (∀j,j<k->digP (bt d j)=true)) (fun i _=>d.size - (intOf i).toNat)
   case atStart=>exact⟨0,Nat.zero_le _,rfl,rfl,Zh fun j hj=>by omega⟩
   case round=>
    obtain⟨k,hk,rfl,rfl,HK⟩:=hrel;by_cases hkl:k<d.size
    ·have l1:decide ((k:Int)<(d.size:Int))=true:=Zt;have l2:decide (k<d.size)=true:=decide_eq_true hkl;have wk:IntKind.i64.wrap ((k:Int)+1)=k+1:=IntWalk.i64_in _ Zo;have HX:=Zh (Yq hkl);by_cases hi:digP (bt d k)=true
     ·have hD:∀w,Calls Tryz.prog 157 #[.int .u8 ((d[k]'hkl).toNat:Int)] w fun e w'=>e= .returned (.bool true)/\w'=w:=fun w=>by
       rw[HX.out,<-hi]; exact YP _ (YB d k) w
      have HI:=Zh hi;clear hi;go_wp2_with (go_at_call 157; refine(hD _).mono ?_; rintro e w' ⟨rfl,rfl⟩);go_roundw
      case rel=>exact⟨k+1,by omega,by go_num,by trivial,Zh fun j hj=>by
       by_cases e:j=k
       ·rw[e]; exact HI.out
       ·exact HK.out j Zo⟩
      case measure=>simp[intOf]; omega
     ·have hi2:digP (bt d k)=false:=by simpa using hi
      have hD:∀w,Calls Tryz.prog 157 #[.int .u8 ((d[k]'hkl).toNat:Int)] w fun e w'=>e= .returned (.bool false)/\w'=w:=fun w=>by
       rw[HX.out,<-hi2]; exact YP _ (YB d k) w
      have HF:Hid (YaB d=false):=Zh (by unfold YaB; rw[Yev (Nat.zero_le k) hkl hi2]; simp);clear hi hi2;go_wp2_with (go_at_call 157; refine(hD _).mono ?_; rintro e w' ⟨rfl,rfl⟩);go_ret;exact⟨by rw[HR.out,HF.out]; rfl,rfl⟩
    ·have l1:decide ((k:Int)<(d.size:Int))=false:=Zf;obtain rfl:k=d.size:=Zo;have HW:Hid (YaB d=(decide (d.size≠0)&&decide (d.size<=500)&&(bt d 0 != 48))):=Zh (by unfold YaB; rw[Ydz (Nat.zero_le _) (fun j h1 h2=>HK.out j Zo),Bool.and_true]);by_cases h0:d.size=0
     ·obtain rfl:d=ByteArray.empty:=by simpa using h0
      go_wp2;go_ret;exact⟨by rw[HR.out,HW.out]; rfl,rfl⟩
     ·have hl:¬d.toList=[]:=Jp h0;have hl2:d.toList.isEmpty=false:=by simpa using hl
      have hlt:0<d.size:=Zo;have l0:decide (0<d.size)=true:=decide_eq_true hlt;by_cases h1:d.size<=500
      ·have g1:decide ((d.size:Int)<=500)=true:=Zt;have HB:=Zh (Yq hlt);have HQ:Hid (YaB d=(((d[0]'hlt).toNat:Int) != 48)):=Zh (by rw[HW.out,decide_eq_true h0,decide_eq_true h1,HB.out]; rfl);by_cases h48:((d[0]'hlt).toNat:Int)=48
       ·go_wp2;go_ret;exact⟨by rw[HR.out,HQ.out,h48]; rfl,rfl⟩
       ·have n48:(((d[0]'hlt).toNat:Int) != 48)=true:=by rw[bne_iff_ne]; exact h48
        have n48':(((d[0]'hlt).toNat:Int)==48)=false:=by rw[beq_eq_false_iff_ne]; exact h48
        go_wp2;go_ret;exact⟨by rw[HR.out,HQ.out,n48]; rfl,rfl⟩
      ·have g1:decide ((d.size:Int)<=500)=false:=Zf;go_wp2;go_ret;exact⟨by rw[HR.out,HW.out]; simp[h1],rfl⟩
theorem JC (c:Int)(h0:0<=c)(w:World):
 Calls Tryz.prog 183 #[.int .u8 c] w fun e w'=>e= .returned (.bool (cls c.toNat==4))/\w'=w:=by
 have hs:(cls c.toNat==4)=(c==40||c==41||c==60||c==62||c==123||c==125||c==61||c==44||c==58||c==59):=by
  rw[Bool.eq_iff_iff];simp only[beq_iff_eq,Bool.or_eq_true,or_assoc];exact YnZ c h0
 rw[hs];go_enter Tryz.func183,Tryz.ntmps183;go_wp2;all_goals go_ret
 all_goals
  refine⟨?_,rfl⟩;simp_all
def Ju (s:ByteArray):Bool:=decide (3<=s.size)&&(bt s 1==46)&&J6 (s.extract 2 s.size)&&steB (bt s 0)
theorem Yb8 (s:ByteArray):Ju s=Y2 s:=by
 by_cases h3:3<=s.size
 ·unfold Ju Y2 J6;rw[Ykz s _ 2 Zo,ext_size];have e1:decide (s.size - 2≠0)=true:=Zt;have e2:decide (s.size - 2<=40)=decide (s.size<=42):=by rw[decide_eq_decide]; omega
  rw[e1,e2,decide_eq_true h3];cases decide (s.size<=42)<;>cases steB (bt s 0)<;>cases(bt s 1==46)<;>cases decide (Yo s (inner JI) 2=s.size)<;>rfl
 ·unfold Ju Y2;rw[decide_eq_false h3]; rfl
theorem YbF {x:Value}{a b:Bool}(h:a=b):Ending.returned (.tuple #[x,.bool a])= .returned (.tuple #[x,.bool b]):=by rw[h]
theorem Jj:(Tryz.prog.info? 223).map (·.size)=some 3:=by kernel_rfl
theorem Ygn (s:ByteArray)(w:World)(hs:s.size<=1000000):
 Calls Tryz.prog 194 #[.string s] w fun e w'=>(∃v,e= .returned (.tuple #[v,.bool (Ju s)]))/\Below w.heap.size w w':=by
 by_cases h3:3<=s.size
 ·have g3:decide ((s.size:Int)<3)=false:=Zf;have hlt:0<s.size:=Zo;have hlt1:1<s.size:=Zo;have l0:decide (0<s.size)=true:=decide_eq_true hlt;have l1:decide (1<s.size)=true:=decide_eq_true hlt1;have c2:(2:Int)<=s.size:=Zo;have hV:=fun w=>YfF (s.extract 2 s.size) w (by rw[ext_size]; omega);by_cases h46:((s[1]'hlt1).toNat:Int)=46
  ·have HR:Hid (Ju s=(J6 (s.extract 2 s.size)&&steB ((s[0]'hlt).toNat:Int))):=Zh (by unfold Ju; rw[decide_eq_true h3,<-Yq hlt1,h46,<-Yq hlt]; rfl);cases hv:J6 (s.extract 2 s.size) with
   |
    false=>
    rw[hv] at hV HR;clear hv;go_enter Tryz.func194,Tryz.ntmps194;go_wp2_with (go_at_call 228; refine(hV _).mono ?_; rintro e w' ⟨rfl,rfl⟩);refine bodyPost_ret (Ya rfl _ _ w.heap.size 223 _ (0,0) _ _ rfl rfl (heap_alloc_new w _) Tryz.underlying223 rfl Jj) rfl ⟨⟨_,YbF HR.out.symm⟩,below_alloc1 w _⟩
   |
    true=>
    rw[hv] at hV HR;clear hv;by_cases e115:((s[0]'hlt).toNat:Int)=115
    ·have HQ:Hid (Ju s=true):=Zh (by rw[HR.out,e115]; rfl);go_enter Tryz.func194,Tryz.ntmps194;go_wp2_with (go_at_call 228; refine(hV _).mono ?_; rintro e w' ⟨rfl,rfl⟩);refine bodyPost_ret (Ya rfl _ _ w.heap.size 223 _ (0,0) _ _ rfl rfl (heap_alloc_new w _) Tryz.underlying223 rfl Jj) rfl ⟨⟨_,YbF HQ.out.symm⟩,below_alloc1 w _⟩
    ·by_cases e116:((s[0]'hlt).toNat:Int)=116
     ·have HQ:Hid (Ju s=true):=Zh (by rw[HR.out,e116]; rfl);go_enter Tryz.func194,Tryz.ntmps194;go_wp2_with (go_at_call 228; refine(hV _).mono ?_; rintro e w' ⟨rfl,rfl⟩);refine bodyPost_ret (Ya rfl _ _ w.heap.size 223 _ (0,0) _ _ rfl rfl (heap_alloc_new w _) Tryz.underlying223 rfl Jj) rfl ⟨⟨_,YbF HQ.out.symm⟩,below_alloc1 w _⟩
     ·by_cases e101:((s[0]'hlt).toNat:Int)=101
      ·have HQ:Hid (Ju s=true):=Zh (by rw[HR.out,e101]; rfl);go_enter Tryz.func194,Tryz.ntmps194;go_wp2_with (go_at_call 228; refine(hV _).mono ?_; rintro e w' ⟨rfl,rfl⟩);refine bodyPost_ret (Ya rfl _ _ w.heap.size 223 _ (0,0) _ _ rfl rfl (heap_alloc_new w _) Tryz.underlying223 rfl Jj) rfl ⟨⟨_,YbF HQ.out.symm⟩,below_alloc1 w _⟩
      ·have b1:(((s[0]'hlt).toNat:Int)==115)=false:=by simpa using e115
       have b2:(((s[0]'hlt).toNat:Int)==116)=false:=by simpa using e116
       have b3:(((s[0]'hlt).toNat:Int)==101)=false:=by simpa using e101
       have HQ:Hid (Ju s=false):=Zh (by rw[HR.out]; unfold steB; rw[b1,b2,b3]; rfl);go_enter Tryz.func194,Tryz.ntmps194;go_wp2_with (go_at_call 228; refine(hV _).mono ?_; rintro e w' ⟨rfl,rfl⟩);refine bodyPost_ret (Ya rfl _ _ w.heap.size 223 _ (0,0) _ _ rfl rfl (heap_alloc_new w _) Tryz.underlying223 rfl Jj) rfl ⟨⟨_,YbF HQ.out.symm⟩,below_alloc1 w _⟩
  ·have HR:Hid (Ju s=false):=Zh (by unfold Ju; rw[<-Yq hlt1,show(((s[1]'hlt1).toNat:Int)==46)=false by simpa using h46]; simp);have b46:(((s[1]'hlt1).toNat:Int) != 46)=true:=by simpa using h46
   go_enter Tryz.func194,Tryz.ntmps194;go_wp2_with (go_at_call 228; refine(hV _).mono ?_; rintro e w' ⟨rfl,rfl⟩);refine bodyPost_ret (Ya rfl _ _ w.heap.size 223 _ (0,0) _ _ rfl rfl (heap_alloc_new w _) Tryz.underlying223 rfl Jj) rfl ⟨⟨_,YbF HR.out.symm⟩,below_alloc1 w _⟩
 ·have g3:decide ((s.size:Int)<3)=true:=Zt;have HR:Hid (Ju s=false):=Zh (by unfold Ju; rw[decide_eq_false h3]; rfl);go_enter Tryz.func194,Tryz.ntmps194;go_wp2;refine bodyPost_ret (Ya rfl _ _ w.heap.size 223 _ (0,0) _ _ rfl rfl (heap_alloc_new w _) Tryz.underlying223 rfl Jj) rfl ⟨⟨_,YbF HR.out.symm⟩,below_alloc1 w _⟩
def okR (kind:Int)(text:ByteArray):Bool:=
 if kind=1 then true else if kind=2 then Ja text else if kind=3 then Jb text else if kind=4 then YbT text else if kind=5 then Y2 text
 else if kind=6 then decide (text.size=1)&&(cls (bt text 0).toNat==4) else if kind=7 then YbU text else false
def chkR (kind:Int)(text:ByteArray):Int:=if okR kind text=true then 0 else 2
theorem Ya8 {kind:Int}{text:ByteArray}{b:Bool}(h:okR kind text=b):chkR kind text=if b=true then 0 else 2:=by unfold chkR; rw[h]
theorem Yhk (s:ByteArray)(w:World):
 Calls Tryz.prog 247 #[.string s] w fun e w'=>e= .returned (.bool (Jb s))/\w'=w:=by
 go_enter Tryz.func247,Tryz.ntmps247;go_wp2_with fail;refine(Yh1 s 60 w Zd Zd).mono ?_;rintro e w1 ⟨rfl,rfl⟩;rw[YjC];go_wp2;go_ret;exact⟨rfl,rfl⟩
theorem Yjq (kind:Int)(text:ByteArray)(a:Int)(w:World)(hs:text.size<=1000000):
 Calls Tryz.prog 220 #[.agg #[.int .i64 kind,.string text,.int .i64 a]] w fun e w'=>e= .returned (.int .i64 (chkR kind text))/\Below w.heap.size w w':=by
 by_cases k1:kind=1
 ·subst k1;go_enter Tryz.func220,Tryz.ntmps220;go_wp2;go_ret;exact⟨rfl,below_alloc1 w _⟩
 by_cases k2:kind=2
 ·subst k2;have hX:=fun w=>YcS text w hs;have HO:Hid (okR 2 text=Ja text):=rfl;generalize Ja text=b at hX HO;clear k1;cases b<;>
  ·go_enter Tryz.func220,Tryz.ntmps220;go_wp2_with (go_at_call 182; refine(hX _).mono ?_; rintro e w1 ⟨rfl,rfl⟩);go_ret;exact⟨by rw[Ya8 HO.out]; rfl,below_alloc1 w _⟩
 by_cases k3:kind=3
 ·subst k3;have hX:=fun w=>Yhk text w;have HO:Hid (okR 3 text=Jb text):=rfl;generalize Jb text=b at hX HO;clear k1 k2;cases b<;>
  ·go_enter Tryz.func220,Tryz.ntmps220;go_wp2_with (go_at_call 247; refine(hX _).mono ?_; rintro e w1 ⟨rfl,rfl⟩);go_ret;exact⟨by rw[Ya8 HO.out]; rfl,below_alloc1 w _⟩
 by_cases k4:kind=4
 ·subst k4;have hX:=fun w=>Ygo text w hs;have HO:Hid (okR 4 text=YbT text):=rfl;generalize YbT text=b at hX HO;clear k1 k2 k3;cases b<;>
  ·go_enter Tryz.func220,Tryz.ntmps220;go_wp2_with (go_at_call 248; refine(hX _).mono ?_; rintro e w1 ⟨rfl,rfl⟩);go_ret;exact⟨by rw[Ya8 HO.out]; rfl,below_alloc1 w _⟩
 by_cases k5:kind=5
 ·subst k5;have hX:=fun w=>Ygn text w hs;rw[Yb8] at hX;have HO:Hid (okR 5 text=Y2 text):=rfl;generalize Y2 text=b at hX HO;clear k1 k2 k3 k4;cases b<;>
  ·go_enter Tryz.func220,Tryz.ntmps220;go_wp2_with (go_at_call 194; refine(hX _).mono ?_; rintro e w1 ⟨⟨v,rfl⟩,hb⟩);go_ret;exact⟨by rw[Ya8 HO.out]; rfl,(below_alloc1 w _).trans (hb.mono Zs)⟩
 by_cases k6:kind=6
 ·subst k6;clear k1 k2 k3 k4 k5;by_cases h1:text.size=1
  ·have hlt:0<text.size:=by omega
   have hX:∀w,Calls Tryz.prog 183 #[.int .u8 ((text[0]'hlt).toNat:Int)] w fun e w'=>e= .returned (.bool (cls (bt text 0).toNat==4))/\w'=w:=fun w=>by
    rw[Yq hlt]; exact JC _ (YB text 0) w
   have HO:Hid (okR 6 text=(cls (bt text 0).toNat==4)):=Zh (by show(decide (text.size=1)&&_)=_; rw[decide_eq_true h1,Bool.true_and]);have g1:((text.size:Int)==1)=true:=by rw[beq_iff_eq]; omega
   have l0:decide (0<text.size)=true:=decide_eq_true hlt;have h1':(text.size:Int)=1:=Zo;generalize(cls (bt text 0).toNat==4)=b at hX HO;cases b<;>
   ·go_enter Tryz.func220,Tryz.ntmps220;go_wp2_with (go_at_call 183; refine(hX _).mono ?_; rintro e w1 ⟨rfl,rfl⟩);go_ret;exact⟨by rw[Ya8 HO.out]; rfl,below_alloc1 w _⟩
  ·have HO:Hid (okR 6 text=false):=Zh (by show(decide (text.size=1)&&_)=_; rw[decide_eq_false h1,Bool.false_and]);have g1:((text.size:Int)==1)=false:=by rw[beq_eq_false_iff_ne]; omega
   go_enter Tryz.func220,Tryz.ntmps220;go_wp2;go_ret;exact⟨by rw[Ya8 HO.out]; rfl,below_alloc1 w _⟩
 by_cases k7:kind=7
 ·subst k7;clear k1 k2 k3 k4 k5 k6;have HO:Hid (okR 7 text=YbU text):=rfl;unfold YbU at HO;by_cases e1:text.toList=[36,69,78,84,82,89]
  ·have b1:(text.toList==[36,69,78,84,82,89])=true:=by simpa using e1
   rw[b1] at HO;go_enter Tryz.func220,Tryz.ntmps220;go_wp2;go_ret;exact⟨by rw[Ya8 HO.out]; rfl,below_alloc1 w _⟩
  ·have b1:(text.toList==[36,69,78,84,82,89])=false:=by simpa using e1
   by_cases e2:text.toList=[36,69,88,84,69,82,78]
   ·have b2:(text.toList==[36,69,88,84,69,82,78])=true:=by simpa using e2
    rw[b1,b2] at HO;go_enter Tryz.func220,Tryz.ntmps220;go_wp2;go_ret;exact⟨by rw[Ya8 HO.out]; rfl,below_alloc1 w _⟩
   ·have b2:(text.toList==[36,69,88,84,69,82,78])=false:=by simpa using e2
    rw[b1,b2] at HO;go_enter Tryz.func220,Tryz.ntmps220;go_wp2;go_ret;exact⟨by rw[Ya8 HO.out]; rfl,below_alloc1 w _⟩
 have HO:Hid (okR kind text=false):=Zh (by unfold okR; rw[if_neg k1,if_neg k2,if_neg k3,if_neg k4,if_neg k5,if_neg k6,if_neg k7]);go_enter Tryz.func220,Tryz.ntmps220;go_wp2;go_ret;exact⟨by rw[Ya8 HO.out]; rfl,below_alloc1 w _⟩
theorem YbL {α:Type}(p:α->Bool):∀l:List α,l.dropWhile p=[]↔∀x∈l,p x=true
 |[]=>by simp
 |
  x::l=>by
  rw[List.dropWhile_cons];by_cases h:p x=true
  ·rw[if_pos h,YbL p l]; simp[h]
  ·rw[if_neg h]; simp[h]
theorem YcK {α:Type}(p:α->Bool):∀(l:List α) (x:α) (r:List α),l.dropWhile p=x::r->p x=false
 |[],x,r,h=>by cases h
 |
  y::l,x,r,h=>by
  rw[List.dropWhile_cons] at h;by_cases hy:p y=true
  ·rw[if_pos hy] at h; exact YcK p l x r h
  ·rw[if_neg hy] at h; cases h; simpa using hy
theorem Yl9 (l cs:List UInt8):Lib.trimS l cs=[]↔∀x∈l,cs.contains x=true:=by
 unfold Lib.trimS Lib.trimLeftS Lib.trimRightS;rw[YbL];constructor
 ·intro h;have:l.reverse.dropWhile (cs.contains ·)=[]:=by
   cases hc:l.reverse.dropWhile (cs.contains ·) with
   |nil=>rfl
   |
    cons x r=>
    have h1:=YcK _ _ _ _ hc;have h2:=h x (by rw[hc]; simp);rw[h1] at h2; cases h2
  intro x hx;exact(YbL _ _).1 this x (by simpa using hx)
 ·intro h x hx;refine h x ?_;have:x∈l.reverse.dropWhile (cs.contains ·):=by simpa using hx
  simpa using(List.dropWhile_sublist _).subset this
theorem YlA (b:UInt8):YdL.data.toList.contains b=digP b.toNat:=by
 have:∀i:Fin 256,YdL.data.toList.contains (UInt8.ofNat i.val)=digP (i.val:Int):=by decide+kernel
 have h:=this ⟨b.toNat,b.toNat_lt⟩;dsimp only at h;rw[UInt8.ofNat_toNat] at h;exact h
theorem Yi0 {a b:ByteArray}(h:a.data.toList=b.data.toList):a=b:=by
 apply ByteArray.ext;exact Array.toList_inj.1 h
theorem YgA (s:ByteArray){x:UInt8}{l:List UInt8}(h:s.data.toList=x::l):bt s 0=x.toNat:=by
 have hz:s.size=(x::l).length:=by rw[<-h,Array.length_toList]; rfl
 have hlt:0<s.size:=by rw[hz]; simp
 rw[<-Yq hlt];have:s.data.toList[0]? =some x:=by rw[h]; rfl
 rw[Array.getElem?_toList,Array.getElem?_eq_getElem hlt] at this;have h2:=Option.some.inj this;rw[<-h2]; rfl
theorem Yk4 (s:ByteArray):numD s=numT s:=by
 apply Yi0;unfold numD numT Lib.trimPrefix Lib.hasPrefix;cases h:s.data.toList with
 |
  nil=>
  have hz:s.size=0:=by have:=congrArg List.length h; rw[Array.length_toList] at this; exact this
  rw[JU Zo,if_neg Zd];exact h.symm
 |
  cons x l=>
  rw[YgA s h];show(List.toArray (if Yfg.data.toList.isPrefixOf (x::l)=true then (x::l).drop Yfg.data.toList.length else x::l)).toList=_;have e1:Yfg.data.toList.isPrefixOf (x::l)=(x==45):=by
   show([45]:List UInt8).isPrefixOf (x::l)=_;simp only[List.isPrefixOf,Bool.and_true];rw[Bool.eq_iff_iff,beq_iff_eq,beq_iff_eq];exact⟨fun q=>q.symm,fun q=>q.symm⟩
  rw[e1];by_cases hx:x=45
  ·subst hx;rw[if_pos Zr,if_pos Zr,Lib.extract_to_end,h];rfl
  ·rw[if_neg (by simpa using hx),if_neg (by intro q; exact hx (UInt8.toNat_inj.1 (by show _=45; omega)))];simp[h]
theorem Ynf (d:ByteArray)(p:Int->Bool):(∀x∈d.data.toList,p x.toNat=true)↔∀j,0<=j->j<d.size->p (bt d j)=true:=by
 constructor
 ·intro h j _ hj;rw[<-Yq hj];exact h _ (Array.mem_toList_iff.2 (Array.getElem_mem (xs:=d.data) hj))
 ·intro h x hx;obtain⟨j,hj,rfl⟩:=Array.getElem_of_mem (Array.mem_toList_iff.1 hx);have:=h j (Nat.zero_le _) hj;rw[<-Yq hj] at this;exact this
theorem YgL (d:ByteArray):(Yjb d).toList.isEmpty=decide (Yo d digP 0=d.size):=by
 rw[Bool.eq_iff_iff,List.isEmpty_iff,Lib.toList_data,decide_eq_true_eq,Y5 d digP _ 0 rfl (Nat.zero_le _)];show(Lib.trimS d.data.toList YdL.data.toList).toArray.toList=[]↔_;rw[List.toList_toArray,Yl9,<-Ynf d digP];simp only[YlA]
theorem Yfw (d:ByteArray):(!d.toList.isEmpty)=decide (d.size≠0):=by
 rw[Lib.toList_data,Bool.eq_iff_iff];have:d.data.toList.length=d.size:=Array.length_toList;cases h:d.data.toList with
 |
  nil=>
  rw[h] at this;have h0:d.size=0:=this.symm;simp[h0]
 |
  cons x l=>
  rw[h] at this;have h0:d.size≠0:=by rw[<-this]; simp
  simp[h0]
theorem Ylp (s:ByteArray):YbT s=JY s:=by
 unfold YbT JY YaB;rw[Yk4,YgL,Yfw];by_cases h48:s.toList=[48]
 ·have hs:s=⟨#[48]⟩:=Yi0 (by rw[<-Lib.toList_data,h48]);subst hs;decide+kernel
 ·rw[show(s.toList==[48])=false by simpa using h48,Bool.false_or,Bool.or_false]
def okB (kind:Int)(text:ByteArray):Bool:=
 if kind=1 then true else if kind=2 then Ja text else if kind=3 then Jb text else if kind=4 then JY text else if kind=5 then Y2 text
 else if kind=6 then decide (text.size=1)&&(cls (bt text 0).toNat==4) else if kind=7 then YbU text else false
def chkB (kind:Int)(text:ByteArray):Int:=if okB kind text=true then 0 else 2
theorem Yor (kind:Int)(text:ByteArray):okR kind text=okB kind text:=by unfold okR okB; rw[Ylp]
theorem Yn3 (kind:Int)(text:ByteArray):chkR kind text=chkB kind text:=by unfold chkR chkB; rw[Yor]
def hexd (n:Nat):UInt8:=(if n<10 then 48+n else 87+n).toUInt8
def backF (mark:UInt8)(b:UInt8):Option UInt8:=
 if b=92 then some 92 else if b=mark then some mark else if mark=34 then none else if b=10 then some 110 else if b=9 then some 116 else none
def escB (mark:UInt8)(b:UInt8):List UInt8:=
 match backF mark b with
 |some e=>[92,e]
 |none=>if b.toNat<32\/126<b.toNat then [92,120,hexd (b.toNat / 16),hexd (b.toNat%16)] else [b]
theorem YmW (mark b:UInt8):(escB mark b).length<=4:=by
 unfold escB;split
 ·simp
 ·split<;>simp
theorem flat_len (mark:UInt8):∀l:List UInt8,(l.flatMap (escB mark)).length<=4*l.length
 |[]=>by simp
 |
  x::l=>by
  rw[List.flatMap_cons,List.length_append,List.length_cons];have:=YmW mark x;have:=flat_len mark l;omega
theorem YlF (k:Int)(t:ByteArray):chkB k t=0\/chkB k t=2:=by
 unfold chkB; split<;>simp
def escs (mark:Int):List (Int×Int):=if mark=34 then [(92,92),(34,34)] else [(92,92),(39,39),(110,10),(116,9)]
theorem Yie (mark:Int)(w:World):
 Calls Tryz.prog 175 #[.int .u8 mark] w fun e w'=>e= .returned (.map (some w.heap.size))/\w'=w.alloc (JR (escs mark)):=by
 have hmm:=@run_makeMap Tryz.prog;by_cases h:mark=34
 ·subst h;have he:escs 34=[(92,92),(34,34)]:=rfl;have HE:=Zh he;clear he;go_enter Tryz.func175,Tryz.ntmps175;go_wp2_with (first
   |(refine YW Zr _ _ _ 259 Zr 5 5 Tryz.underlying259 Tryz.underlying5 [] 92 92 Zr Zr Zr Zr ?_)
   |(refine YW Zr _ _ _ 259 Zr 5 5 Tryz.underlying259 Tryz.underlying5 [(92,92)] 34 34 Zr Zr Zr Zd ?_))
  go_ret;exact⟨rfl,by rw[HE.out]⟩
 ·have he:escs mark=[(92,92),(39,39),(110,10),(116,9)]:=by simp[escs,h]
  have HE:=Zh he;have hb:(mark==34)=false:=beq_eq_false_iff_ne.2 h;clear he h;go_enter Tryz.func175,Tryz.ntmps175;go_wp2_with (first
   |(refine YW Zr _ _ _ 259 Zr 5 5 Tryz.underlying259 Tryz.underlying5 [] 92 92 Zr Zr Zr Zd ?_)
   |(refine YW Zr _ _ _ 259 Zr 5 5 Tryz.underlying259 Tryz.underlying5 [(92,92)] 39 39 Zr Zr Zr Zd ?_)
   |(refine YW Zr _ _ _ 259 Zr 5 5 Tryz.underlying259 Tryz.underlying5 [(92,92),(39,39)] 110 10 Zr Zr Zr Zd ?_)
   |(refine YW Zr _ _ _ 259 Zr 5 5 Tryz.underlying259 Tryz.underlying5 [(92,92),(39,39),(110,10)] 116 9 Zr Zr Zr Zd ?_))
  go_ret;exact⟨rfl,by rw[HE.out]⟩
theorem YdR:(Tryz.prog.info? 142).map (·.size)=some 2:=by kernel_rfl
theorem Yht:liesAt Tryz.prog Tryz.prog.depth 142 (2 / Tryz.prog.cellsOf 142) 0 142 1=true:=by kernel_rfl
theorem Yia:(Tryz.prog.info? 5).map (fun i=>(i.zero,i.size,i.bytes))=some (some (.int .u8 0),1,1):=by kernel_rfl
abbrev IsB (B b:Nat)(bs:List Value)(w:World):Prop:=Lib.IsBuilder 142 5 B b bs w
abbrev Yn9 (B b:Nat)(bs:List Value)(w:World):Prop:=Lib.BuilderAt 142 5 B b (.pointer (some ⟨b,0,none⟩)) bs w
theorem YhD (b:Nat)(w:World)(h0:w.cell? ⟨b,0,none⟩=some (.pointer (some ⟨b,0,none⟩))):
 Calls Tryz.prog 129 #[.pointer (some ⟨b,0,none⟩)] w fun e w'=>e= .returned (.tuple #[])/\w'=w:=by
 obtain⟨j,hj,_⟩:=Option.map_eq_some_iff.1 YdR;have hr:=Lib.run_neq_ptr_same w ⟨b,0,none⟩ Tryz.underlying140 hj;go_enter Tryz.func129,Tryz.ntmps129;go_wp2;try(rw[hr]; go_wp2)
 go_end0
 exact⟨rfl,rfl⟩
theorem YfT (b:Nat)(w:World)(h0:w.cell? ⟨b,0,none⟩=some (.pointer none))(hsh:w.shape? b=some (142,2))(hfz:w.frozen? ⟨b,0,none⟩=false):
 Calls Tryz.prog 129 #[.pointer (some ⟨b,0,none⟩)] w fun e w'=>e= .returned (.tuple #[])/\w'=w.setCell ⟨b,0,none⟩ (.pointer (some ⟨b,0,none⟩)):=by
 obtain⟨j,hj,hjs⟩:=Option.map_eq_some_iff.1 YdR;go_enter Tryz.func129,Tryz.ntmps129;go_wp2;rw[Lib.run_to_unsafe w ⟨b,0,none⟩ Tryz.underlying140 Tryz.underlying247 hj (by rw[hjs]; decide) hsh (Nat.zero_lt_succ 1)];simp only[Result.andThen];rw[Oper.upon_value];go_wp2;rw[run_callFunc_extern Tryz.func176 (by kernel_rfl) (by kernel_rfl) (by kernel_rfl) (e:=Extern.AbiNoEscape.same) (by kernel_rfl)];rw[Lib.run_noEscape];simp only[Result.andThen];rw[Oper.upon_value];go_wp2;rw[Lib.run_from_unsafe w ⟨b,0,none⟩ Tryz.underlying247 Tryz.underlying140 hj hsh Yht];simp only[Result.andThen];rw[Oper.upon_value];go_wp2;go_end0
 exact⟨rfl,rfl⟩
def u8o:Obj->Bool
 |.cells _ t _=>t==5
 |_=>false
structure Y3 (B b:Nat)(w w':World):Prop where
 below:Below B w w'
 same:∀k o,w.heap[k]? =some o->k≠b->u8o o=false->w'.heap[k]? =some o
section
variable {B b:Nat}{w w' w1 w2:World}
theorem Y3.refl (B b:Nat)(w:World):Y3 B b w w:=⟨Below.refl B w,fun _ _ h _ _=>h⟩
theorem Y3.trans (h:Y3 B b w w1)(k:Y3 B b w1 w2):Y3 B b w w2:=⟨h.below.trans k.below,fun i o hi hb ho=>k.same i o (h.same i o hi hb ho) hb ho⟩
theorem Y3.of_below (h:Below w.heap.size w w')(hB:B<=w.heap.size):Y3 B b w w':=⟨h.mono hB,fun i _ hi _ _=>(h.block i (Zg hi).1).trans hi⟩
theorem Y3.alloc (hB:B<=w.heap.size)(o:Obj):Y3 B b w (w.alloc o):=Y3.of_below (below_alloc1 w o) hB
theorem Y3.set (hb:B<=b)(i:Nat)(v:Value):Y3 B b w (w.setCell ⟨b,i,none⟩ v):=⟨(Below.refl B w).setCell (p:=⟨b,i,none⟩) hb v,fun k o hk hne _=>(Below.heap_setCell _ _ _ _ (by simpa using hne)).trans hk⟩
theorem Y3.grown {row:Option Nat}(hg:w.grownBy w' row)(hB:B<=w.heap.size)(hr:∀k,row=some k->B<=k/\∀o,w.heap[k]? =some o->u8o o=true):Y3 B b w w':=
 ⟨(Below.refl B w).grown hg hB (fun k e=>(hr k e).1),fun k o hk _ ho=>(hg.block k (Zg hk).1 (fun e=>by have:=(hr k e.symm).2 o hk; rw[ho] at this; cases this)).trans hk⟩
theorem Y3.size (h:Y3 B b w w'):w.heap.size<=w'.heap.size:=h.below.size
theorem Y3.cells (h:Y3 B b w w'){k:Nat}{cs:Array Value}{t:TypeId}{fr:Nat×Nat}(hk:w.heap[k]? =some (.cells cs t fr))(hb:k≠b)(ht:(t==5)=false):w'.heap[k]? =some (.cells cs t fr):=h.same k _ hk hb ht
end
theorem Yna {B n:Nat}{v:Value}{xs:List Value}{w:World}(h:w.ownsRow B 5 1 v n xs):∀k,v.ownBlock=some k->B<=k/\∀o,w.heap[k]? =some o->u8o o=true:=by
 intro k hk;rcases h.2 with⟨rfl,_⟩ | ⟨g,cap,cur,rfl,hB,hg,_⟩
 ·cases hk
 ·have e:g=k:=by simpa[Value.ownBlock] using hk
  subst e;refine⟨hB,fun o ho=>?_⟩;rw[hg] at ho;cases ho;rfl
theorem Ynd (B b:Nat)(bs:List Value)(w:World)(h:IsB B b bs w):
 Calls Tryz.prog 129 #[.pointer (some ⟨b,0,none⟩)] w fun e w'=>e= .returned (.tuple #[])/\(Yn9 B b bs w'/\Y3 B b w w'):=by
 rcases h with h | h
 ·exact(YfT b w h.cell0 h.shape h.frozen0).mono fun e w' q=>⟨q.1,by rw[q.2]; exact⟨h.used _,Y3.set h.1 0 _⟩⟩
 ·exact(YhD b w h.cell0).mono fun e w' q=>⟨q.1,by rw[q.2]; exact⟨h,Y3.refl B b _⟩⟩
theorem Yak (B b:Nat)(bs:List Value)(s:ByteArray)(w:World)(h:IsB B b bs w)(hlen:bs.length+s.size<=140737488355328)(hBw:B<=w.heap.size):
 Calls Tryz.prog 83 #[.pointer (some ⟨b,0,none⟩),.string s] w fun e w'=>e= .returned (.tuple #[.int .i64 s.size,.nilIface])/\(Yn9 B b (bs++Lib.strCells s) w'/\Y3 B b w w'):=by
 obtain⟨i0,hi,hz0,hz1,hz2⟩:=info_parts Yia;go_enter Tryz.func83,Tryz.ntmps83;go_wp2_with fail;refine(Ynd B b bs _ h).mono ?_;rintro e w1 ⟨rfl,h1,hb1⟩;obtain⟨hB,v,hbk,hown,hne⟩:=h1;have c0:w1.cell? ⟨b,0,none⟩=some (.pointer (some ⟨b,0,none⟩)):=by simp[World.cell?,hbk]
 have c1:w1.cell? ⟨b,1,none⟩=some v:=by simp[World.cell?,hbk]
 have hsz:=hb1.size;go_wp2_with (at_builtin; refine Lib.wpList_append_own_string _ rfl _ _ 129 9 rfl B 5 i0 Tryz.underlying129 Tryz.underlying9 hi hz0 hz1 hz2 _ _ _ rfl hown s rfl (by unfold maxLen; omega) Zo Zo ?_);intro v' w2 hown' hgrow _;have hlt:b<w1.heap.size:=(Zg hbk).1;have hb2:=(hgrow.block b hlt (fun e=>hne e.symm)).trans hbk;have d0:w2.cell? ⟨b,0,none⟩=some (.pointer (some ⟨b,0,none⟩)):=by simp[World.cell?,hb2]
 have d1:w2.cell? ⟨b,1,none⟩=some v:=by simp[World.cell?,hb2]
 have f1:w2.frozen? ⟨b,1,none⟩=false:=by simp[World.frozen?,hb2]
 obtain⟨ao,n',cap,rfl⟩:∃ao n' cap,v'= .slice ao n' cap:=by
  rcases hown'.2 with⟨hv,_⟩ | ⟨g,cap,cur,hv,_⟩
  ·exact⟨_,_,_,hv⟩
  ·exact⟨_,_,_,hv⟩
 go_wp2;go_ret2
 refine⟨rfl,?_,?_⟩
 ·exact Lib.BuilderAt.put (T:=142) (e:=5) hB hb2 (bs':=bs++Lib.strCells s) (by simpa[Lib.strCells_length] using hown') Zd
 ·exact(hb1.trans (Y3.grown hgrow Zo (Yna hown))).trans (Y3.set hB 1 _)
theorem Jl (B b:Nat)(bs:List Value)(c:Int)(w:World)(h:IsB B b bs w)(hlen:bs.length+1<=140737488355328)(hBw:B<=w.heap.size):
 Calls Tryz.prog 82 #[.pointer (some ⟨b,0,none⟩),.int .u8 c] w fun e w'=>e= .returned .nilIface/\(Yn9 B b (bs++[.int .u8 c]) w'/\Y3 B b w w'):=by
 obtain⟨i0,hi,hz0,hz1,hz2⟩:=info_parts Yia;go_enter Tryz.func82,Tryz.ntmps82;go_wp2_with fail;refine(Ynd B b bs _ h).mono ?_;rintro e w1 ⟨rfl,h1,hb1⟩;obtain⟨hB,v,hbk,hown,hne⟩:=h1;have c0:w1.cell? ⟨b,0,none⟩=some (.pointer (some ⟨b,0,none⟩)):=by simp[World.cell?,hbk]
 have c1:w1.cell? ⟨b,1,none⟩=some v:=by simp[World.cell?,hbk]
 have hsz:=hb1.size;go_wp2_with (at_builtin; refine wpList_append_own _ rfl _ _ 129 rfl B 5 i0 (.int .u8 0) 1 1 Tryz.underlying129 hi hz0 hz1 hz2 rfl Zd _ _ _ rfl (hown.alloc _) ⟨w1.heap.size,0,none⟩ 1 1 [.int .u8 c] rfl rfl (World.news_of_block (cs:=#[.int .u8 c]) (t:=5) (fr:=(0,0)) (heap_alloc_new _ _)) (by simp[Value.oneCell']) (by unfold maxLen; omega) Zo (by simp<;>omega) ?_);intro v' w2 hown' hgrow _;have hlt:b<w1.heap.size:=(Zg hbk).1;have hb2:=(hgrow.block b (by simp; omega) (fun e=>hne e.symm)).trans ((Below.heap_alloc _ _ b hlt).trans hbk);have d0:w2.cell? ⟨b,0,none⟩=some (.pointer (some ⟨b,0,none⟩)):=by simp[World.cell?,hb2]
 have d1:w2.cell? ⟨b,1,none⟩=some v:=by simp[World.cell?,hb2]
 have f1:w2.frozen? ⟨b,1,none⟩=false:=by simp[World.frozen?,hb2]
 obtain⟨ao,n',cap,rfl⟩:∃ao n' cap,v'= .slice ao n' cap:=by
  rcases hown'.2 with⟨hv,_⟩ | ⟨g,cap,cur,hv,_⟩
  ·exact⟨_,_,_,hv⟩
  ·exact⟨_,_,_,hv⟩
 go_wp2;go_ret;refine⟨rfl,?_,?_⟩
 ·exact Lib.BuilderAt.put (T:=142) (e:=5) hB hb2 (bs':=bs++[.int .u8 c]) (by simpa using hown') Zd
 ·exact((hb1.trans (Y3.alloc Zo _)).trans (Y3.grown hgrow (by simp; omega) (Yna (hown.alloc _)))).trans (Y3.set hB 1 _)
theorem Yls {B b:Nat}{bs:List Value}{w w':World}(h:IsB B b bs w)(hb:Below w.heap.size w w'):IsB B b bs w':=by
 have go:∀p,Lib.BuilderAt 142 5 B b p bs w->Lib.BuilderAt 142 5 B b p bs w':=by
  rintro p ⟨hB,v,hbk,hown,hne⟩;exact⟨hB,v,(hb.block _ (Zg hbk).1).trans hbk,(Keep.of_below (S:=fun _=>False) hb).owns hown (fun _ _ q=>q),hne⟩
 exact h.imp (go _) (go _)
def tcl (c:Int):Int:=if (97<=c/\c<=122)\/(65<=c/\c<=90) then 5 else if 48<=c/\c<=57 then 6 else if c=45\/c=95 then 4 else if c=32\/c=9\/c=10\/c=13 then 8 else 0
theorem Yii (c:Int)(h0:0<=c)(w:World):
 Calls Tryz.prog 260 #[.int .u8 c] w fun e w'=>e= .returned (.int .u8 (tcl c))/\w'=w:=by
 by_cases h1:(97<=c/\c<=122)\/(65<=c/\c<=90)
 ·have HX:Hid (tcl c=5):=Zh (by unfold tcl; rw[if_pos h1]);have hb:(decide (97<=c)&&decide (c<=122)||decide (65<=c)&&decide (c<=90))=true:=by simpa using h1
  go_enter Tryz.func260,Tryz.ntmps260;go_wp2;all_goals first
   |(go_ret; exact⟨by rw[HX.out]; rfl,rfl⟩)
   |(exfalso; simp_all<;>omega)
 ·by_cases h2:48<=c/\c<=57
  ·have HX:Hid (tcl c=6):=Zh (by unfold tcl; rw[if_neg h1,if_pos h2]);go_enter Tryz.func260,Tryz.ntmps260;go_wp2;all_goals first
    |(go_ret; exact⟨by rw[HX.out]; rfl,rfl⟩)
    |(exfalso; simp_all<;>omega)
  ·by_cases h3:c=45\/c=95
   ·have HX:Hid (tcl c=4):=Zh (by unfold tcl; rw[if_neg h1,if_neg h2,if_pos h3]);clear h1 h2;rcases h3 with rfl | rfl;all_goals
     go_enter Tryz.func260,Tryz.ntmps260;go_wp2;go_ret;exact⟨by rw[HX.out]; rfl,rfl⟩
   ·by_cases h4:c=32\/c=9\/c=10\/c=13
    ·have HX:Hid (tcl c=8):=Zh (by unfold tcl; rw[if_neg h1,if_neg h2,if_neg h3,if_pos h4]);clear h1 h2 h3;rcases h4 with rfl | rfl | rfl | rfl;all_goals
      go_enter Tryz.func260,Tryz.ntmps260;go_wp2;go_ret;exact⟨by rw[HX.out]; rfl,rfl⟩
    ·have HX:Hid (tcl c=0):=Zh (by unfold tcl; rw[if_neg h1,if_neg h2,if_neg h3,if_neg h4]);go_enter Tryz.func260,Tryz.ntmps260;go_wp2;all_goals first
      |(go_ret; exact⟨by rw[HX.out]; rfl,rfl⟩)
      |(exfalso; simp_all<;>omega)
def tis (k c:Int):Bool:=if k=1 then tcl c==5 else if k=2 then tcl c==6 else if k=3 then tcl c==5||tcl c==6 else tcl c==5||tcl c==6||tcl c==4
theorem Ykf (c k:Int)(h0:0<=c)(hk:k=1\/k=2\/k=3\/k=4)(w:World):
 Calls Tryz.prog 249 #[.int .u8 c,.int .u8 k] w fun e w'=>e= .returned (.bool (tis k c))/\w'=w:=by
 have hC:=Yii c h0 w;have hT:tcl c=5\/tcl c=6\/tcl c=4\/tcl c=8\/tcl c=0:=by
  unfold tcl;repeat' split
  all_goals omega
 unfold tis;generalize tcl c=t at hC hT⊢;go_enter Tryz.func249,Tryz.ntmps249;go_wp2_with fail;refine hC.mono ?_;rintro e w1 ⟨rfl,rfl⟩;clear hC;rcases hk with rfl | rfl | rfl | rfl<;>rcases hT with rfl | rfl | rfl | rfl | rfl<;>
 ·go_wp2;go_ret;exact⟨rfl,rfl⟩
theorem Ycj (c:Int)(h0:0<=c)(h1:c<=255):tis 4 c=inner Yj c/\tis 3 c=inner JI c/\tis 2 c=digP c/\tis 1 c=(cls c.toNat==2):=by
 have:∀i:Fin 256,tis 4 (i.val:Int)=inner Yj (i.val:Int)/\tis 3 (i.val:Int)=inner JI (i.val:Int)/\tis 2 (i.val:Int)=digP (i.val:Int)/\tis 1 (i.val:Int)=(cls (i.val:Int).toNat==2):=by decide+kernel
 have h:=this ⟨c.toNat,by omega⟩;have e:((c.toNat:Nat):Int)=c:=Zo;dsimp only at h;rw[e] at h;exact h
theorem Yew (s:ByteArray){p q:Int->Bool}(h:∀j,p (bt s j)=q (bt s j))(i:Nat)(hi:i<=s.size):decide (Yo s p i=s.size)=decide (Yo s q i=s.size):=by
 rw[decide_eq_decide,Y5 s p _ i rfl hi,Y5 s q _ i rfl hi];simp only[h]
theorem Ye0 (s:ByteArray)(k:Int)(hk:k=1\/k=2\/k=3\/k=4)(w:World)(hs:s.size<=1000000):
 Calls Tryz.prog 227 #[.string s,.int .u8 k] w fun e w'=>e= .returned (.bool (decide (Yo s (tis k) 0=s.size)))/\w'=w:=by
 have hI:∀(j:Nat) (w:World),Calls Tryz.prog 249 #[.int .u8 (bt s j),.int .u8 k] w fun e w'=>e= .returned (.bool (tis k (bt s j)))/\w'=w:=fun j w=>Ykf _ _ (YB s j) hk w;have HI:=Zh hI;have hY:(∀j,j<s.size->tis k (bt s j)=true)->decide (Yo s (tis k) 0=s.size)=true:=fun h=>Ydz (Nat.zero_le _) (fun j _ hj=>h j hj);have hN:∀j,j<s.size->tis k (bt s j)=false->decide (Yo s (tis k) 0=s.size)=false:=fun j hj h=>Yev (Nat.zero_le _) hj h;have HY:=Zh hY;have HN:=Zh hN;clear hI hY hN hk;generalize tis k=p at HI HY HN⊢;generalize decide (Yo s p 0=s.size)=R at HY HN⊢;go_enter Tryz.func227,Tryz.ntmps227;go_wp2;go_loopw [8] (fun i wr=>∃n:Nat,n<=s.size/\i= .int .i64 n/\wr=w/\Hid (∀j,j<n->p (bt s j)=true)) (fun i _=>s.size - (intOf i).toNat)
 case atStart=>exact⟨0,Nat.zero_le _,rfl,rfl,Zh fun j hj=>by omega⟩
 case round=>
  obtain⟨n,hn,rfl,rfl,HK⟩:=hrel;by_cases hnl:n<s.size
  ·have l1:decide ((n:Int)<(s.size:Int))=true:=Zt;have l2:decide (n<s.size)=true:=decide_eq_true hnl;have wk:IntKind.i64.wrap ((n:Int)+1)=n+1:=IntWalk.i64_in _ Zo;have HX:=Zh (Yq hnl);have hC:=fun w=>HI.out n w;by_cases hi:p (bt s n)=true
   ·rw[hi] at hC;have HP:=Zh hi;clear hi;go_wp2_with fail;rw[HX.out];refine(hC _).mono ?_;rintro e w' ⟨rfl,rfl⟩;clear hC;go_wp2;go_roundw
    case rel=>exact⟨n+1,by omega,by go_num,by trivial,Zh fun j hj=>by
     by_cases e:j=n
     ·rw[e]; exact HP.out
     ·exact HK.out j Zo⟩
    case measure=>simp[intOf]; omega
   ·have hi2:p (bt s n)=false:=by simpa using hi
    rw[hi2] at hC;have HP:=Zh hi2;clear hi hi2;go_wp2_with fail;rw[HX.out];refine(hC _).mono ?_;rintro e w' ⟨rfl,rfl⟩;clear hC;go_wp2;go_ret;exact⟨by rw[HN.out n hnl HP.out]; rfl,rfl⟩
  ·have l1:decide ((n:Int)<(s.size:Int))=false:=Zf;have l2:decide (n<s.size)=false:=decide_eq_false hnl;go_wp2;go_ret;exact⟨by rw[HY.out (fun j hj=>HK.out j Zo)]; rfl,rfl⟩
theorem Yib (s:ByteArray)(h0:s.size≠0){n:Int}(h1:(s.size:Int)<=n)(hc:tis 1 (bt s 0)=true):YC n s=decide (Yo s (tis 4) 0=s.size):=by
 have h2:=(Ycj _ (YB s 0) (Jk s 0)).2.2.2;rw[hc] at h2;have h4:tis 4 (bt s 0)=true:=by
  rw[(Ycj _ (YB s 0) (Jk s 0)).1];unfold inner;rw[<-h2]; rfl
 unfold YC;rw[decide_eq_true h0,decide_eq_true h1,<-h2,YD Zo h4,<-Yew s (fun j=>(Ycj _ (YB s j) (Jk s j)).1) 1 Zo];rfl
theorem YeU (s:ByteArray)(n:Int)(w:World)(hn:0<=n)(hn2:n<=1000):
 Calls Tryz.prog 223 #[.string s,.int .i64 n] w fun e w'=>e= .returned (.bool (YC n s))/\w'=w:=by
 by_cases h0:s.size=0
 ·obtain rfl:s=ByteArray.empty:=by simpa using h0
  have HR:Hid (YC n ByteArray.empty=false):=by simp[YC,Hid]
  go_enter Tryz.func223,Tryz.ntmps223;go_wp2;go_ret;exact⟨by rw[HR.out]; rfl,rfl⟩
 ·have hl:¬s.toList=[]:=Jp h0;have hl2:s.toList.isEmpty=false:=by simpa using hl
  have hlt:0<s.size:=Zo;by_cases h1:(s.size:Int)<=n
  ·have g1:decide ((s.size:Int)<=n)=true:=decide_eq_true h1;have hB:=Yq hlt;have hL:=fun w=>Ykf (bt s 0) 1 (YB s 0) Zo w;have l0:decide (0<s.size)=true:=decide_eq_true hlt;by_cases hc:tis 1 (bt s 0)=true
   ·rw[hc] at hL;have hE:=fun w=>Ye0 s 4 Zo w Zo;have hR:=Yib s h0 h1 hc;have HB:=Zh hB;rw[<-hR] at hE;generalize YC n s=R at hE⊢;clear hB hc hR;go_enter Tryz.func223,Tryz.ntmps223;go_wp2_with fail;rw[HB.out];refine(hL _).mono ?_;rintro e w' ⟨rfl,rfl⟩;clear hL;go_wp2_with fail;refine(hE _).mono ?_;rintro e w' ⟨rfl,rfl⟩;clear hE;go_wp2;go_ret;exact⟨by simp,rfl⟩
   ·have hc2:tis 1 (bt s 0)=false:=by simpa using hc
    have HR:Hid (YC n s=false):=Zh (by
     unfold YC;rw[<-(Ycj _ (YB s 0) (Jk s 0)).2.2.2,hc2];simp)
    rw[hc2] at hL;have HB:=Zh hB;clear hB hc hc2;go_enter Tryz.func223,Tryz.ntmps223;go_wp2_with fail;rw[HB.out];refine(hL _).mono ?_;rintro e w' ⟨rfl,rfl⟩;clear hL;go_wp2;go_ret;exact⟨by rw[HR.out]; simp,rfl⟩
  ·have g1:decide ((s.size:Int)<=n)=false:=decide_eq_false h1;have HR:Hid (YC n s=false):=Zh (by unfold YC; rw[g1]; simp);clear h1;go_enter Tryz.func223,Tryz.ntmps223;go_wp2;all_goals first
    |(go_ret; exact⟨by rw[HR.out]; simp,rfl⟩)
    |(exfalso; simp_all)
def negB (s:ByteArray):Bool:=Lib.hasPrefix s.data.toList Yfg.data.toList
theorem Yot (s:ByteArray):negB s=(bt s 0==45):=by
 unfold negB Lib.hasPrefix;cases h:s.data.toList with
 |
  nil=>
  have hz:s.size=0:=by have:=congrArg List.length h; rw[Array.length_toList] at this; exact this
  rw[JU Zo]; rfl
 |
  cons x l=>
  rw[YgA s h];have e1:Yfg.data.toList.isPrefixOf (x::l)=(x==45):=by
   show([45]:List UInt8).isPrefixOf (x::l)=_;simp only[List.isPrefixOf,Bool.and_true];rw[Bool.eq_iff_iff,beq_iff_eq,beq_iff_eq];exact⟨fun q=>q.symm,fun q=>q.symm⟩
  rw[e1,Bool.eq_iff_iff,beq_iff_eq,beq_iff_eq];exact⟨fun q=>by subst q; rfl,fun q=>UInt8.toNat_inj.1 (by show _=45; omega)⟩
theorem Yoq (s:ByteArray):s.toList=[48]↔s.size=1/\bt s 0=48:=by
 rw[Lib.toList_data];have hz:s.data.toList.length=s.size:=Array.length_toList;constructor
 ·intro h;rw[h] at hz;exact⟨hz.symm,by rw[YgA s h]; rfl⟩
 ·rintro⟨h1,h2⟩;rw[h1] at hz;cases h:s.data.toList with
  |nil=>rw[h] at hz; cases hz
  |
   cons x l=>
   rw[h] at hz;rw[YgA s h] at h2;have hl:l=[]:=List.eq_nil_of_length_eq_zero (by simpa using hz);rw[hl,UInt8.toNat_inj.1 (show x.toNat=(48:UInt8).toNat by show _=48; omega)]
theorem YeK (s:ByteArray):JY s=(decide ((numD s).size≠0)&&decide ((numD s).size<=500)&&decide (Yo (numD s) (tis 2) 0=(numD s).size)&&(bt (numD s) 0 != 48||decide ((numD s).size=1)&&!negB s)):=by
 unfold JY;rw[YgL,Yfw,Yew (numD s) (fun j=>(Ycj _ (YB _ j) (Jk _ j)).2.2.1) 0 (Nat.zero_le _)];congr 1
 by_cases hb:bt (numD s) 0=48
 ·rw[show(bt (numD s) 0 != 48)=false by simpa using hb,Bool.false_or,Bool.false_or,Bool.eq_iff_iff,beq_iff_eq,Yoq,Yot];rw[Yk4] at hb⊢;unfold numT at hb⊢;by_cases h45:bt s 0=45
  ·rw[if_pos h45] at hb⊢;simp[h45]
  ·rw[if_neg h45] at hb⊢;simp[h45,hb]
 ·rw[show(bt (numD s) 0 != 48)=true by simpa using hb];rfl
theorem Ylo (s:ByteArray)(w:World)(hs:s.size<=1000000):
 Calls Tryz.prog 226 #[.string s] w fun e w'=>e= .returned (.bool (JY s))/\w'=w:=by
 have hP:Calls Tryz.prog 251 #[.string s,.string Yfg] w fun e w'=>e= .returned (.tuple #[.string (numD s),.bool (negB s)])/\w'=w:=Tryz.strings_CutPrefix s Yfg w;have hz:(numD s).size<=s.size:=by
  rw[Yk4]; unfold numT; split
  ·rw[ByteArray.size_extract]; omega
  ·exact Nat.le_refl _
 rw[YeK s];generalize negB s=ng at hP⊢;generalize numD s=d at hP hz⊢;have hE:=fun w=>Ye0 d 2 Zo w Zo;go_enter Tryz.func226,Tryz.ntmps226;by_cases h0:d.size=0
 ·obtain rfl:d=ByteArray.empty:=by simpa using h0
  clear hE;go_wp2_with fail;refine hP.mono ?_;rintro e w1 ⟨rfl,rfl⟩;clear hP;go_wp2;go_ret;exact⟨rfl,rfl⟩
 ·have hl:¬d.toList=[]:=Jp h0;have hl2:d.toList.isEmpty=false:=by simpa using hl
  have hlt:0<d.size:=Zo;by_cases h1:d.size<=500
  ·have g1:decide ((500:Int)<(d.size:Int))=false:=Zf;have l0:decide (0<d.size)=true:=decide_eq_true hlt;have HB:=Zh (Yq hlt);have h00:=Zh (And.intro h0 h1);cases hR:decide (Yo d (tis 2) 0=d.size) with
   |
    false=>
    simp only[hR] at hE;clear hR;go_wp2_with fail;refine hP.mono ?_;rintro e w1 ⟨rfl,rfl⟩;clear hP;go_wp2_with fail;refine(hE _).mono ?_;rintro e w1 ⟨rfl,rfl⟩;clear hE;go_wp2;go_ret;exact⟨by simp,rfl⟩
   |
    true=>
    simp only[hR] at hE;clear hR;by_cases hb:bt d 0=48
    ·have hx:(((d[0]'hlt).toNat:Int) != 48)=false:=by rw[HB.out]; simpa using hb
     have HN:Hid ((bt d 0 != 48)=false):=Zh (by simpa using hb);clear hb;go_wp2_with fail;refine hP.mono ?_;rintro e w1 ⟨rfl,rfl⟩;clear hP;go_wp2_with fail;refine(hE _).mono ?_;rintro e w1 ⟨rfl,rfl⟩;clear hE;go_wp2;all_goals go_ret
     all_goals
      refine⟨?_,rfl⟩;rw[decide_eq_true h00.out.1,decide_eq_true h00.out.2,HN.out];cases ng<;>simp_all<;>omega
    ·have hx:(((d[0]'hlt).toNat:Int) != 48)=true:=by rw[HB.out]; simpa using hb
     have HN:Hid ((bt d 0 != 48)=true):=Zh (by simpa using hb);clear hb;go_wp2_with fail;refine hP.mono ?_;rintro e w1 ⟨rfl,rfl⟩;clear hP;go_wp2_with fail;refine(hE _).mono ?_;rintro e w1 ⟨rfl,rfl⟩;clear hE;go_wp2;all_goals go_ret
     all_goals
      refine⟨?_,rfl⟩;rw[decide_eq_true h00.out.1,decide_eq_true h00.out.2,HN.out];simp
  ·have g1:decide ((500:Int)<(d.size:Int))=true:=Zt;have HN:Hid (decide (d.size<=500)=false):=Zh (decide_eq_false h1);clear hE;go_wp2_with fail;refine hP.mono ?_;rintro e w1 ⟨rfl,rfl⟩;clear hP;go_wp2;all_goals first
    |(go_ret; exact⟨by rw[HN.out]; simp,rfl⟩)
    |(exfalso; simp_all<;>omega)
end Go.Proofs.YteamjdmhdfjopaaGreatDoor
