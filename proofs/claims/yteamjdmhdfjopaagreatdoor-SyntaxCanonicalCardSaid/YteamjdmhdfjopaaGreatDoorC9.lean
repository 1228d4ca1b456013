/- A part of the proof; it holds the texts Names Rb Tca Rc Qx Tcb Tcc (names and blanks shortened). -/
import Derived.Test.YteamjdmhdfjopaaGreatDoorC3
import Derived.Test.YteamjdmhdfjopaaGreatDoorC8
import Derived.Test.YteamjdmhdfjopaaGreatDoorProg
import Derived.Test.YteamjdmhdfjopaaGreatDoorC2
import Derived.Test.YteamjdmhdfjopaaGreatDoorC1
import Derived.Test.YteamjdmhdfjopaaGreatDoorCS
import Derived.RegionCalls
import Derived.OwnWalk
import Derived.Test.YteamjdmhdfjopaaGreatDoorC4
namespace Go.Proofs.YteamjdmhdfjopaaGreatDoor
open Go.RowKit
set_option maxRecDepth 100000
set_option maxHeartbeats 8000000
set_option linter.unusedVariables false
set_option linter.unusedSimpArgs false
def Yez:Array Value:=#[.string ⟨#[]⟩,.int .i64 0]++Yap++#[.slice none 0 0]
theorem Yey (w:World):(zeroValue 133).run Tryz.prog w= .ok (.agg Yez) w:=by kernel_rfl
def JQ (s:ByteArray):Array Value:=((List.range 259).map (YaA s 0 (.slice none 0 0))).toArray
theorem Yak (s:ByteArray):(JQ s).size=259:=by simp[JQ]
theorem Yd0:Yez.size=259:=by simp[Yez,YaX]
theorem YcM (s:ByteArray)(i:Nat)(h:i<259):(JQ s)[i]? =some (YaA s 0 (.slice none 0 0) i):=by simp[JQ,h]
theorem YdF (s:ByteArray):Tryz.prog.built 133 [(0,.string s),(2,.agg JI)]=some (JQ s):=by kernel_rfl
theorem Yh1 (s:ByteArray):(Tryz.prog.info? 133).map (·.size)=some (JQ s).size:=by rw[Yak]; kernel_rfl
theorem Yf8 (s:ByteArray):(JQ s).all (·.oneCell')=true:=by
 simp only[JQ,List.all_toArray,List.all_map,List.all_eq_true,Function.comp];intro i _;unfold YaA;repeat' split
 all_goals rfl
theorem Yg0 (w:World)(s:ByteArray):Yw w.heap.size s 0 (.slice none 0 0) (w.alloc (.cells (JQ s) 133)):=by
 have h:=World.rowIs_alloc w (JQ s) 133 (YaA s 0 (.slice none 0 0)) (fun i hi=>YcM s i (by rwa [Yak] at hi));rwa [Yak] at h
theorem Ybx (s:ByteArray)(w:World):
 Calls Tryz.prog 174 #[.string s] w fun e w'=>e= .returned (.bool (YaR s))/\w'=w:=by
 go_enter Tryz.func174,Tryz.ntmps174;go_wp2;all_goals go_ret
 all_goals
  refine⟨?_,rfl⟩;unfold YaR;first
  |rfl
  |(
    have hp:s.toList=[36,69,78,84,82,89]:=by assumption
    simp[hp]; done)
theorem YaJ {s:ByteArray}(h:s.size≠0):s.toList≠[]:=by
 intro e;apply h;have:=congrArg List.length e;simpa[Lib.toList_data] using this
theorem Ynt (m n:Nat):((m:Int)==n)=decide (m=n):=by rw[Bool.eq_iff_iff]; simp; omega
theorem Yfc {s:ByteArray}{x:Nat}{v:Int}{b:Bool}(h0:¬s.toList=[])(h1:s.size<=60)(hb:(x:Int)=bt s 0)(hv:cls x=v)(h:b=((v==2)&&decide (Yf s (inner Yj) 1=s.size))):
 Ending.returned (.bool b)= .returned (.bool (YL s)):=by
 have h2:s.size≠0:=by
  intro e; apply h0; obtain rfl:s=ByteArray.empty:=by simpa using e
  simp[Lib.toList_data]
 subst hv h;simp[YL,h2,h1,<-hb]
theorem YgH (s:ByteArray)(w:World):
 Calls Tryz.prog 99 #[.string s] w fun e w'=>e= .returned (.bool (YL s))/\Below w.heap.size w w':=by
 by_cases h0:s.size=0
 ·obtain rfl:s=ByteArray.empty:=by simpa using h0
  have HR:Hid (YL ByteArray.empty=false):=by simp[YL,Hid]
  go_enter Tryz.func99,Tryz.ntmps99;go_wp2;go_ret;exact⟨by rw[HR.out]; rfl,Below.refl _ _⟩
 ·have hl:¬s.toList=[]:=YaJ h0;have hl2:s.toList.isEmpty=false:=by simpa using hl
  by_cases h1:s.size<=60
  ·have hlt:0<s.size:=by omega
   have hx1:(s[0]'hlt).toNat<256:=(s[0]).toNat_lt;have HB:Hid (((s[0]'hlt).toNat:Int)=bt s 0):=Je hlt;have hc:(JQ s)[2+(s[0]'hlt).toNat]? =some (.int .i64 (cls (s[0]'hlt).toNat)):=by
    rw[YcM s _ Zo]; unfold YaA; rw[if_neg Zo,if_neg Zo,if_pos Zo]; congr 3; omega
   generalize hv:cls (s[0]'hlt).toNat=v at hc;have HV:=Zh hv;clear hv;clear h0;go_enter Tryz.func99,Tryz.ntmps99;go_wp2_with fail;refine(YbC _).mono ?_;rintro e w1 ⟨rfl,hb1⟩;go_wp2_with (refine Ycu 133 #[(0,.tmp 11),(2,.tmp 12)] 13 3 (by exact⟨rfl,rfl,rfl⟩) (by exact⟨rfl,rfl,rfl⟩) (by exact⟨rfl,rfl,rfl⟩) Zd Zs Zs [(0,.string s),(2,.agg JI)] (by simp[Act.eval]) (JQ s) (YdF s) Yez Yey (Yh1 s) (by rw[Yd0,Yak]) (Yf8 s) ?_)
   ·have hv:v=2:=by assumption
    have hr:=run_any w1.heap.size s Yj 0 1 (.slice none 0 0) _ Zo Zo (Yg0 w1 s);generalize hm:Yf s (inner Yj) 1=m at hr;have HM:=Zh hm;clear hm;refine hr.mono ?_;rintro e w2 ⟨rfl,nq,rfl⟩;clear hr;go_wp2;go_ret;exact⟨Yfc hl h1 HB.out HV.out (by rw[HM.out,<-Ynt]; simp[hv]),below_drewN (hb1.alloc hb1.size _) _⟩
   ·have hv:¬v=2:=by assumption
    go_ret;exact⟨Yfc hl h1 HB.out HV.out (by simp[hv]),hb1.alloc hb1.size _⟩
  ·have hgt:60<s.size:=by omega
   have HR:Hid (YL s=false):=by simp[YL,Hid,h1]
   go_enter Tryz.func99,Tryz.ntmps99;go_wp2;go_ret;exact⟨by rw[HR.out]; rfl,Below.refl _ _⟩
theorem YqZ (c:Nat)(h:c<256):(0<=Lib.indexByte [115,116,101] (c:Int).toNat.toUInt8↔steB (c:Int)=true):=by
 have hc:∀d:Nat,d<256->((c:Int).toNat.toUInt8=d.toUInt8↔c=d):=by
  intro d hd;constructor
  ·intro e;have:=congrArg UInt8.toNat e;simpa[Nat.mod_eq_of_lt h,Nat.mod_eq_of_lt hd] using this
  ·rintro rfl; rfl
 have h1:=hc 115 Zo;have h2:=hc 116 Zo;have h3:=hc 101 Zo;generalize(c:Int).toNat.toUInt8=u at*;have e1:(115:UInt8)=Nat.toUInt8 115:=rfl;have e2:(116:UInt8)=Nat.toUInt8 116:=rfl;have e3:(101:UInt8)=Nat.toUInt8 101:=rfl;rw[<-e1] at h1; rw[<-e2] at h2; rw[<-e3] at h3;by_cases q1:u=115
 ·subst q1; obtain rfl:=h1.1 rfl; decide
 by_cases q2:u=116
 ·subst q2; obtain rfl:=h2.1 rfl; decide
 by_cases q3:u=101
 ·subst q3; obtain rfl:=h3.1 rfl; decide
 have n1:¬c=115:=fun e=>q1 (h1.2 e);have n2:¬c=116:=fun e=>q2 (h2.2 e);have n3:¬c=101:=fun e=>q3 (h3.2 e);have:Lib.indexByte [115,116,101] u= -1:=by
  simp[Lib.indexByte,Ne.symm q1,Ne.symm q2,Ne.symm q3]
 rw[this];unfold steB;simp;omega
theorem YdR {s:ByteArray}{x y:Nat}{ix:Int}{b:Bool}(h0:3<=s.size)(h1:s.size<=42)(hb:(x:Int)=bt s 0)(hb1:(y:Int)=bt s 1)(hi:0<=ix↔steB (x:Int)=true)
 (h:b=(decide (0<=ix)&&((y:Int)==46)&&decide (Yf s (inner Js) 2=s.size))):Ending.returned (.bool b)= .returned (.bool (YF s)):=by
 subst h;have:decide (0<=ix)=steB (x:Int):=by rw[Bool.eq_iff_iff,decide_eq_true_eq]; exact hi
 simp[YF,h0,h1,<-hb,<-hb1,this]
theorem YfH (s:ByteArray)(w:World):
 Calls Tryz.prog 173 #[.string s] w fun e w'=>e= .returned (.bool (YF s))/\Below w.heap.size w w':=by
 by_cases h0:3<=s.size
 ·by_cases h1:s.size<=42
  ·have hlt:0<s.size:=by omega
   have hlt1:1<s.size:=Zo;have hx1:(s[0]'hlt).toNat<256:=(s[0]).toNat_lt;have HB:Hid (((s[0]'hlt).toNat:Int)=bt s 0):=Je hlt;have HB1:Hid (((s[1]'hlt1).toNat:Int)=bt s 1):=Je hlt1;have hI:=fun w=>Tryz.strings_IndexByte ⟨#[115,116,101]⟩ ((s[0]'hlt).toNat:Int) w;have HS:=Zh (YqZ (s[0]'hlt).toNat hx1);generalize hix:Lib.indexByte [115,116,101] ((s[0]'hlt).toNat:Int).toNat.toUInt8=ix at HS;have hI2:∀w,Calls Tryz.prog 87 #[.string ⟨#[115,116,101]⟩,.int .u8 (s[0]'hlt).toNat] w fun e w'=>e= .returned (.int .i64 ix)/\w'=w:=by
    intro w; have:=hI w; rwa [show(⟨#[115,116,101]⟩:ByteArray).data.toList=[115,116,101] from rfl,hix] at this
   clear hix hI;by_cases hn:((s[1]'hlt1).toNat:Int)=46
   ·have e:(((s[1]'hlt1).toNat:Int)==46)=true:=beq_iff_eq.2 hn;have e2:(((s[1]'hlt1).toNat:Int) != 46)=false:=by simpa using hn
    have E:=Zh e;clear hn e;go_enter Tryz.func173,Tryz.ntmps173;go_wp2_with fail;refine(hI2 _).mono ?_;rintro e w1 ⟨rfl,rfl⟩;clear hI2;go_wp2_with fail
    ·have hi:0<=ix:=by omega
     refine(YbC _).mono ?_;rintro e w2 ⟨rfl,hb1⟩;go_wp2_with (refine Ycu 133 #[(0,.tmp 23),(2,.tmp 24)] 25 3 (by exact⟨rfl,rfl,rfl⟩) (by exact⟨rfl,rfl,rfl⟩) (by exact⟨rfl,rfl,rfl⟩) Zd Zs Zs [(0,.string s),(2,.agg JI)] (by simp[Act.eval]) (JQ s) (YdF s) Yez Yey (Yh1 s) (by rw[Yd0,Yak]) (Yf8 s) ?_);have hr:=run_any w2.heap.size s Js 0 2 (.slice none 0 0) _ Zo Zo (Yg0 w2 s);generalize hm:Yf s (inner Js) 2=m at hr;have HM:=Zh hm;clear hm;refine hr.mono ?_;rintro e w3 ⟨rfl,nq,rfl⟩;clear hr;go_wp2;go_ret;refine⟨YdR h0 h1 HB.out HB1.out HS.out ?_,below_drewN (hb1.alloc hb1.size _) _⟩;rw[E.out,HM.out,<-Ynt]; simp[hi]
    ·have hi:¬0<=ix:=by omega
     go_ret;refine⟨YdR h0 h1 HB.out HB1.out HS.out ?_,Below.refl _ _⟩;simp[hi]
   ·have e:(((s[1]'hlt1).toNat:Int)==46)=false:=beq_eq_false_iff_ne.2 hn;have e2:(((s[1]'hlt1).toNat:Int) != 46)=true:=by simpa using hn
    have E:=Zh e;clear hn e;go_enter Tryz.func173,Tryz.ntmps173;go_wp2_with fail;refine(hI2 _).mono ?_;rintro e w1 ⟨rfl,rfl⟩;clear hI2;go_wp2_with fail;all_goals
     go_ret;refine⟨YdR h0 h1 HB.out HB1.out HS.out ?_,Below.refl _ _⟩;rw[E.out]; simp
  ·have hgt:42<s.size:=by omega
   have HR:Hid (YF s=false):=by simp[YF,Hid,h1]
   go_enter Tryz.func173,Tryz.ntmps173;go_wp2;go_ret;exact⟨by rw[HR.out]; rfl,Below.refl _ _⟩
 ·have hgt:s.size<3:=by omega
  have HR:Hid (YF s=false):=by simp[YF,Hid,h0]
  go_enter Tryz.func173,Tryz.ntmps173;go_wp2;go_ret;exact⟨by rw[HR.out]; rfl,Below.refl _ _⟩
theorem Yv (s:ByteArray)(p:Int->Bool):∀(n i:Nat),s.size - i=n->i<=s.size->(Yf s p i=s.size↔∀j,i<=j->j<s.size->p (bt s j)=true)
 |
  0,i,hn,hi=>by
  rw[YD Zo];exact⟨fun _ j h1 h2=>by omega,fun _=>by omega⟩
 |
  n+1,i,hn,hi=>by
  by_cases hp:p (bt s i)=true
  ·rw[YE Zo hp,Yv s p n (i+1) Zo Zo];exact⟨fun h j h1 h2=>by
    by_cases e:j=i
    ·rw[e]; exact hp
    ·exact h j Zo h2,fun h j h1 h2=>h j Zo h2⟩
  ·rw[YD (by intro q; exact hp q.2)];exact⟨fun h=>by omega,fun h=>absurd (h i (Nat.le_refl _) Zo) hp⟩
theorem YmB {s:ByteArray}{p:Int->Bool}{i:Nat}(hi:i<=s.size)(h:∀j,i<=j->j<s.size->p (bt s j)=true):decide (Yf s p i=s.size)=true:=
 decide_eq_true ((Yv s p _ i rfl hi).2 h)
theorem YmD {s:ByteArray}{p:Int->Bool}{i j:Nat}(hi:i<=j)(hj:j<s.size)(h:p (bt s j)=false):decide (Yf s p i=s.size)=false:=
 decide_eq_false fun q=>by
  have:=(Yv s p _ i rfl Zo).1 q j hi hj;rw[h] at this; cases this
def Yh (n:Int)(s:ByteArray):Bool:=decide (s.size≠0)&&decide ((s.size:Int)<=n)&&(cls (bt s 0).toNat==2)&&decide (Yf s (inner Yj) 1=s.size)
theorem Yls (s:ByteArray):Yh 60 s=YL s:=by
 unfold Yh YL;have:decide ((s.size:Int)<=60)=decide (s.size<=60):=by rw[decide_eq_decide]; omega
 rw[this]
def JB (c:Int):Bool:=decide (32<=c)&&decide (c<=126)
def YY (s:ByteArray):Bool:=decide (s.size≠0)&&decide (s.size<=60)&&decide (Yf s JB 0=s.size)
def YbI (s:ByteArray):Bool:=decide (s.size≠0)&&decide (s.size<=40)&&decide (Yf s (inner Js) 0=s.size)
def tcl (c:Int):Int:=if (97<=c/\c<=122)\/(65<=c/\c<=90) then 5 else if 48<=c/\c<=57 then 6 else if c=45\/c=95 then 4 else if c=32\/c=9\/c=10\/c=13 then 8 else 0
theorem Yjy (c:Int)(h0:0<=c)(w:World):
 Calls Tryz.prog 260 #[.int .u8 c] w fun e w'=>e= .returned (.int .u8 (tcl c))/\w'=w:=by
 by_cases h1:(97<=c/\c<=122)\/(65<=c/\c<=90)
 ·have HX:Hid (tcl c=5):=Zh (by unfold tcl; rw[if_pos h1]);have hb:(decide (97<=c)&&decide (c<=122)||decide (65<=c)&&decide (c<=90))=true:=by simpa using h1
  go_enter Tryz.func260,Tryz.ntmps260;go_wp2;all_goals first
   |(go_ret; exact⟨by rw[HX.out]; rfl,rfl⟩)
   |(exfalso; simp_all<;>omega)
 ·by_cases h2:48<=c/\c<=57
  ·have HX:Hid (tcl c=6):=Zh (by unfold tcl; rw[if_neg h1,if_pos h2]);go_enter Tryz.func260,Tryz.ntmps260;go_wp2;all_goals first
    |(go_ret; exact⟨by rw[HX.out]; rfl,rfl⟩)
    |(exfalso; simp_all<;>omega)
  ·by_cases h3:c=45\/c=95
   ·have HX:Hid (tcl c=4):=Zh (by unfold tcl; rw[if_neg h1,if_neg h2,if_pos h3]);clear h1 h2;rcases h3 with rfl | rfl;all_goals
     go_enter Tryz.func260,Tryz.ntmps260;go_wp2;go_ret;exact⟨by rw[HX.out]; rfl,rfl⟩
   ·by_cases h4:c=32\/c=9\/c=10\/c=13
    ·have HX:Hid (tcl c=8):=Zh (by unfold tcl; rw[if_neg h1,if_neg h2,if_neg h3,if_pos h4]);clear h1 h2 h3;rcases h4 with rfl | rfl | rfl | rfl;all_goals
      go_enter Tryz.func260,Tryz.ntmps260;go_wp2;go_ret;exact⟨by rw[HX.out]; rfl,rfl⟩
    ·have HX:Hid (tcl c=0):=Zh (by unfold tcl; rw[if_neg h1,if_neg h2,if_neg h3,if_neg h4]);go_enter Tryz.func260,Tryz.ntmps260;go_wp2;all_goals first
      |(go_ret; exact⟨by rw[HX.out]; rfl,rfl⟩)
      |(exfalso; simp_all<;>omega)
def tis (k c:Int):Bool:=if k=1 then tcl c==5 else if k=2 then tcl c==6 else if k=3 then tcl c==5||tcl c==6 else tcl c==5||tcl c==6||tcl c==4
theorem Ymc (c k:Int)(h0:0<=c)(hk:k=1\/k=2\/k=3\/k=4)(w:World):
 Calls Tryz.prog 249 #[.int .u8 c,.int .u8 k] w fun e w'=>e= .returned (.bool (tis k c))/\w'=w:=by
 have hC:=Yjy c h0 w;have hT:tcl c=5\/tcl c=6\/tcl c=4\/tcl c=8\/tcl c=0:=by
  unfold tcl;repeat' split
  all_goals omega
 unfold tis;generalize tcl c=t at hC hT⊢;go_enter Tryz.func249,Tryz.ntmps249;go_wp2_with fail;refine hC.mono ?_;rintro e w1 ⟨rfl,rfl⟩;clear hC;rcases hk with rfl | rfl | rfl | rfl<;>rcases hT with rfl | rfl | rfl | rfl | rfl<;>
 ·go_wp2;go_ret;exact⟨rfl,rfl⟩
theorem YnV (s:ByteArray)(i j:Nat):bt (s.extract i s.size) j=bt s (i+j):=by
 by_cases h:i+j<s.size
 ·have hz:j<(s.extract i s.size).size:=by rw[ByteArray.size_extract]; omega
  rw[<-Je h,<-Je hz,ByteArray.getElem_extract]
 ·rw[Jp (s:=s) Zo,Jp (by rw[ByteArray.size_extract]; omega)]
theorem ext_size (s:ByteArray)(i:Nat):(s.extract i s.size).size=s.size - i:=by rw[ByteArray.size_extract]; omega
theorem Yp6 (s:ByteArray)(p:Int->Bool)(i:Nat)(hi:i<=s.size):decide (Yf (s.extract i s.size) p 0=(s.extract i s.size).size)=decide (Yf s p i=s.size):=by
 rw[decide_eq_decide,Yv _ p _ 0 rfl (Nat.zero_le _),Yv s p _ i rfl hi,ext_size];constructor
 ·intro h j h1 h2;have:=h (j - i) (Nat.zero_le _) Zo;rw[YnV,show i+(j - i)=j by omega] at this;exact this
 ·intro h j h1 h2;rw[YnV]; exact h (i+j) Zo Zo
def digP (c:Int):Bool:=cls c.toNat==3
def Ynp (d:ByteArray):Bool:=decide (d.size≠0)&&decide (d.size<=500)&&decide (Yf d digP 0=d.size)&&(bt d 0 != 48)
def numT (s:ByteArray):ByteArray:=if bt s 0=45 then s.extract 1 s.size else s
def Yno (s:ByteArray):Bool:=s.toList==[48]||Ynp (numT s)
theorem YbA {α:Type}(p:α->Bool):∀l:List α,l.dropWhile p=[]↔∀x∈l,p x=true
 |[]=>by simp
 |
  x::l=>by
  rw[List.dropWhile_cons];by_cases h:p x=true
  ·rw[if_pos h,YbA p l]; simp[h]
  ·rw[if_neg h]; simp[h]
theorem YcF {α:Type}(p:α->Bool):∀(l:List α) (x:α) (r:List α),l.dropWhile p=x::r->p x=false
 |[],x,r,h=>by cases h
 |
  y::l,x,r,h=>by
  rw[List.dropWhile_cons] at h;by_cases hy:p y=true
  ·rw[if_pos hy] at h; exact YcF p l x r h
  ·rw[if_neg hy] at h; cases h; simpa using hy
theorem Yoo (l cs:List UInt8):Lib.trimS l cs=[]↔∀x∈l,cs.contains x=true:=by
 unfold Lib.trimS Lib.trimLeftS Lib.trimRightS;rw[YbA];constructor
 ·intro h;have:l.reverse.dropWhile (cs.contains ·)=[]:=by
   cases hc:l.reverse.dropWhile (cs.contains ·) with
   |nil=>rfl
   |
    cons x r=>
    have h1:=YcF _ _ _ _ hc;have h2:=h x (by rw[hc]; simp);rw[h1] at h2; cases h2
  intro x hx;exact(YbA _ _).1 this x (by simpa using hx)
 ·intro h x hx;refine h x ?_;have:x∈l.reverse.dropWhile (cs.contains ·):=by simpa using hx
  simpa using(List.dropWhile_sublist _).subset this
theorem YnL (b:UInt8):YdV.data.toList.contains b=digP b.toNat:=by
 have:∀i:Fin 256,YdV.data.toList.contains (UInt8.ofNat i.val)=digP (i.val:Int):=by decide+kernel
 have h:=this ⟨b.toNat,b.toNat_lt⟩;dsimp only at h;rw[UInt8.ofNat_toNat] at h;exact h
theorem Yco {a b:ByteArray}(h:a.data.toList=b.data.toList):a=b:=by
 apply ByteArray.ext;exact Array.toList_inj.1 h
theorem YdY (s:ByteArray){x:UInt8}{l:List UInt8}(h:s.data.toList=x::l):bt s 0=x.toNat:=by
 have hz:s.size=(x::l).length:=by rw[<-h,Array.length_toList]; rfl
 have hlt:0<s.size:=by rw[hz]; simp
 rw[<-Je hlt];have:s.data.toList[0]? =some x:=by rw[h]; rfl
 rw[Array.getElem?_toList,Array.getElem?_eq_getElem hlt] at this;have h2:=Option.some.inj this;rw[<-h2]; rfl
theorem YmX (s:ByteArray):numD s=numT s:=by
 apply Yco;unfold numD numT Lib.trimPrefix Lib.hasPrefix;cases h:s.data.toList with
 |
  nil=>
  have hz:s.size=0:=by have:=congrArg List.length h; rw[Array.length_toList] at this; exact this
  rw[Jp Zo,if_neg Zd];exact h.symm
 |
  cons x l=>
  rw[YdY s h];show(List.toArray (if YfK.data.toList.isPrefixOf (x::l)=true then (x::l).drop YfK.data.toList.length else x::l)).toList=_;have e1:YfK.data.toList.isPrefixOf (x::l)=(x==45):=by
   show([45]:List UInt8).isPrefixOf (x::l)=_;simp only[List.isPrefixOf,Bool.and_true];rw[Bool.eq_iff_iff,beq_iff_eq,beq_iff_eq];exact⟨fun q=>q.symm,fun q=>q.symm⟩
  rw[e1];by_cases hx:x=45
  ·subst hx;rw[if_pos Zr,if_pos Zr,Lib.extract_to_end,h];rfl
  ·rw[if_neg (by simpa using hx),if_neg (by intro q; exact hx (UInt8.toNat_inj.1 (by show _=45; omega)))];simp[h]
theorem YpS (d:ByteArray)(p:Int->Bool):(∀x∈d.data.toList,p x.toNat=true)↔∀j,0<=j->j<d.size->p (bt d j)=true:=by
 constructor
 ·intro h j _ hj;rw[<-Je hj];exact h _ (Array.mem_toList_iff.2 (Array.getElem_mem (xs:=d.data) hj))
 ·intro h x hx;obtain⟨j,hj,rfl⟩:=Array.getElem_of_mem (Array.mem_toList_iff.1 hx);have:=h j (Nat.zero_le _) hj;rw[<-Je hj] at this;exact this
theorem YhB (d:ByteArray):(Yk0 d).toList.isEmpty=decide (Yf d digP 0=d.size):=by
 rw[Bool.eq_iff_iff,List.isEmpty_iff,Lib.toList_data,decide_eq_true_eq,Yv d digP _ 0 rfl (Nat.zero_le _)];show(Lib.trimS d.data.toList YdV.data.toList).toArray.toList=[]↔_;rw[List.toList_toArray,Yoo,<-YpS d digP];simp only[YnL]
theorem Yf2 (d:ByteArray):(!d.toList.isEmpty)=decide (d.size≠0):=by
 rw[Lib.toList_data,Bool.eq_iff_iff];have:d.data.toList.length=d.size:=Array.length_toList;cases h:d.data.toList with
 |
  nil=>
  rw[h] at this;have h0:d.size=0:=this.symm;simp[h0]
 |
  cons x l=>
  rw[h] at this;have h0:d.size≠0:=by rw[<-this]; simp
  simp[h0]
theorem Ynn (s:ByteArray):Yno s=Y8 s:=by
 unfold Yno Y8 Ynp;rw[YmX,YhB,Yf2];by_cases h48:s.toList=[48]
 ·have hs:s=⟨#[48]⟩:=Yco (by rw[<-Lib.toList_data,h48]);subst hs;decide+kernel
 ·rw[show(s.toList==[48])=false by simpa using h48,Bool.false_or,Bool.or_false]
def okB (kind:Int)(text:ByteArray):Bool:=
 if kind=1 then true else if kind=2 then YY text else if kind=3 then YL text else if kind=4 then Y8 text else if kind=5 then YF text
 else if kind=6 then decide (text.size=1)&&(cls (bt text 0).toNat==4) else if kind=7 then YaR text else false
def chkB (kind:Int)(text:ByteArray):Int:=if okB kind text=true then 0 else 2
theorem Ycf {kind:Int}{text:ByteArray}{b:Bool}(h:okB kind text=b):chkB kind text=if b=true then 0 else 2:=by unfold chkB; rw[h]
def hexd (n:Nat):UInt8:=(if n<10 then 48+n else 87+n).toUInt8
def Yfw (mark:UInt8)(b:UInt8):Option UInt8:=
 if b=92 then some 92 else if b=mark then some mark else if mark=34 then none else if b=10 then some 110 else if b=9 then some 116 else none
def escB (mark:UInt8)(b:UInt8):List UInt8:=
 match Yfw mark b with
 |some e=>[92,e]
 |none=>if b.toNat<32\/126<b.toNat then [92,120,hexd (b.toNat / 16),hexd (b.toNat%16)] else [b]
def Yaa (mark:UInt8)(s:ByteArray):List UInt8:=mark::(s.data.toList.flatMap (escB mark)++[mark])
def YX (mark:UInt8)(s:ByteArray):ByteArray:=⟨(Yaa mark s).toArray⟩
theorem Ymh {s:ByteArray}{k:Nat}(h:k<s.size):s.data.toList.take (k+1)=s.data.toList.take k++[bu s k]:=by
 have hl:k<s.data.toList.length:=by rw[Array.length_toList]; exact h
 rw[<-List.take_append_getElem hl];unfold bu;rw[dif_pos h,Array.getElem_toList]; rfl
theorem YnE {s:ByteArray}{k:Nat}(h:k<s.size):(s.extract k (k+1)).data.toList=[bu s k]:=by
 have hz:(s.extract k (k+1)).size=1:=by rw[ByteArray.size_extract]; omega
 have hb:bu (s.extract k (k+1)) 0=bu s k:=by
  unfold bu;rw[dif_pos Zo,dif_pos h,ByteArray.getElem_extract];rfl
 have hl:(s.extract k (k+1)).data.toList.length=1:=by rw[Array.length_toList]; exact hz
 cases hd:(s.extract k (k+1)).data.toList with
 |nil=>rw[hd] at hl; cases hl
 |
  cons x l=>
  rw[hd] at hl;obtain rfl:l=[]:=by cases l with | nil=>rfl | cons _ _=>simp at hl
  have h2:=YdY _ hd;rw[YaE,hb] at h2;have:bu s k=x:=UInt8.toNat_inj.1 Zo;rw[this]
def QOut (mark:UInt8)(s:ByteArray)(k:Nat)(t:ByteArray):Prop:=t.data.toList=mark::(s.data.toList.take k).flatMap (escB mark)
theorem QOut.step {mark:UInt8}{s t x:ByteArray}{k:Nat}(h:QOut mark s k t)(hk:k<s.size)(hx:x.data.toList=escB mark (bu s k)):QOut mark s (k+1) (t++x):=by
 unfold QOut at h⊢;rw[ByteArray.data_append,Array.toList_append,h,hx,Ymh hk,List.flatMap_append];simp
theorem QOut.done {mark:UInt8}{s t:ByteArray}(h:QOut mark s s.size t):t++⟨#[mark]⟩=YX mark s:=by
 apply Yco;unfold QOut at h;have:s.data.toList.take s.size=s.data.toList:=List.take_of_length_le (by rw[Array.length_toList]; exact Nat.le_refl _);rw[this] at h;rw[ByteArray.data_append,Array.toList_append,h];simp[YX,Yaa]
theorem Ype (mark b:UInt8):(escB mark b).length<=4:=by
 unfold escB;split
 ·simp
 ·split<;>simp
theorem flat_len (mark:UInt8):∀l:List UInt8,(l.flatMap (escB mark)).length<=4*l.length
 |[]=>by simp
 |
  x::l=>by
  rw[List.flatMap_cons,List.length_append,List.length_cons];have:=Ype mark x;have:=flat_len mark l;omega
theorem QOut.len {mark:UInt8}{s t:ByteArray}{k:Nat}(h:QOut mark s k t):t.size<=4*k+1:=by
 have h2:=congrArg List.length h;rw[Array.length_toList,List.length_cons] at h2;have h3:=flat_len mark (s.data.toList.take k);rw[List.length_take] at h3;have:t.size=t.data.size:=rfl;omega
theorem YeW (mark:UInt8)(s:ByteArray):(YX mark s).size<=4*s.size+2:=by
 show(Yaa mark s).toArray.size<=_;rw[List.size_toArray];unfold Yaa;rw[List.length_cons,List.length_append];have h3:=flat_len mark s.data.toList;have:s.data.toList.length=s.size:=Array.length_toList;simp only[List.length_cons,List.length_nil];omega
structure Ti where
 kind:Int
 text:ByteArray
 at_:Int
def YS (k:Int)(t:ByteArray):ByteArray:=if k=1 then YX 39 t else if k=2 then YX 34 t else t
def gapK (k:Int):Bool:=[3,4,5,7].contains k
def YnB:Option Ti->Option Ti->Bool
 |some x,some y=>gapK x.kind&&gapK y.kind
 |_,_=>false
def Yeg (l:List Ti):Nat->Bool
 |0=>false
 |i+1=>YnB l[i+1]? l[i]?
def segB (l:List Ti)(i:Nat):List UInt8:=match l[i]? with
 |some x=>(if Yeg l i then [32] else [])++(YS x.kind x.text).data.toList
 |none=>[]
def Y6 (l:List Ti)(k:Nat):List UInt8:=(List.range k).flatMap (segB l)
theorem Yfa (l:List Ti)(k:Nat):Y6 l (k+1)=Y6 l k++segB l k:=by
 unfold Y6; rw[List.range_succ,List.flatMap_append]; simp
def YfL:List Ti->Option Nat
 |[]=>none
 |x::l=>if chkB x.kind x.text=0 then (YfL l).map (·+1) else some 0
def YcO (l:List Ti):ByteArray×Int:=match YfL l with
 |some _=>(ByteArray.empty,2)
 |none=>if 40000<(Y6 l l.length).length then (ByteArray.empty,7) else (⟨(Y6 l l.length).toArray⟩,0)
theorem YnX {l:List Ti}(h:YfL l=none):∀k (hk:k<l.length),chkB l[k].kind l[k].text=0:=by
 induction l with
 |nil=>intro k hk; simp at hk
 |
  cons x l ih=>
  intro k hk;rw[YfL] at h;by_cases hx:chkB x.kind x.text=0
  ·rw[if_pos hx] at h;cases k with
   |zero=>exact hx
   |succ k=>exact ih (by simpa using h) k (by simpa using hk)
  ·rw[if_neg hx] at h; cases h
theorem YkM {l:List Ti}(h:∀k (hk:k<l.length),chkB l[k].kind l[k].text=0):YfL l=none:=by
 induction l with
 |nil=>rfl
 |
  cons x l ih=>
  have h0:chkB x.kind x.text=0:=h 0 Zs;rw[YfL,if_pos h0];rw[ih fun k hk=>h (k+1) (by simpa using hk)]; rfl
theorem Ypp {l:List Ti}{k:Nat}(hk:k<l.length)(h:¬chkB l[k].kind l[k].text=0):∃i,YfL l=some i:=by
 cases hb:YfL l with
 |none=>exact absurd (YnX hb k hk) h
 |some i=>exact⟨i,rfl⟩
theorem Ynh {l:List Ti}{k:Nat}(hk:k<l.length)(h:¬chkB l[k].kind l[k].text=0):YcO l=(ByteArray.empty,2):=by
 obtain⟨i,hi⟩:=Ypp hk h;unfold YcO; rw[hi]
theorem YiN (k:Int)(t:ByteArray):chkB k t=0\/chkB k t=2:=by
 unfold chkB; split<;>simp
theorem Yc7 (k:Int)(t:ByteArray):(YS k t).size<=4*t.size+2:=by
 unfold YS;split
 ·exact YeW _ _
 ·split
  ·exact YeW _ _
  ·omega
theorem Yjc {l:List Ti}{i:Nat}(h:i<l.length):segB l i=(if Yeg l i then [32] else [])++(YS l[i].kind l[i].text).data.toList:=by
 unfold segB; rw[List.getElem?_eq_getElem h]
theorem Ylt (l:List Ti):Yeg l 0=false:=rfl
theorem Ylu {l:List Ti}{i:Nat}(h:i+1<l.length):Yeg l (i+1)=(gapK l[i+1].kind&&gapK (l[i]'Zo).kind):=by
 show YnB _ _=_;rw[List.getElem?_eq_getElem h,List.getElem?_eq_getElem (show i<l.length by omega)];rfl
theorem YoF {l:List Ti}{i:Nat}(h:i<l.length){M:Nat}(hM:l[i].text.size<=M):(segB l i).length<=4*M+3:=by
 rw[Yjc h,List.length_append];have h1:=Yc7 l[i].kind l[i].text;have h2:(YS l[i].kind l[i].text).data.toList.length=(YS l[i].kind l[i].text).size:=Array.length_toList;have h3:(if Yeg l i then ([32]:List UInt8) else []).length<=1:=by split<;>simp
 omega
theorem Yis {l:List Ti}{M:Nat}(hM:∀x∈l,x.text.size<=M):∀k,k<=l.length->(Y6 l k).length<=k*(4*M+3)
 |0,_=>by simp[Y6]
 |
  k+1,hk=>by
  rw[Yfa,List.length_append];have h1:=Yis hM k Zo;have h2:=YoF (l:=l) (i:=k) Zo (hM _ (List.getElem_mem Zo));rw[Nat.succ_mul]; omega
theorem Ych (c:Int)(h0:0<=c)(h1:c<=255):tis 4 c=inner Yj c/\tis 3 c=inner Js c/\tis 2 c=digP c/\tis 1 c=(cls c.toNat==2):=by
 have:∀i:Fin 256,tis 4 (i.val:Int)=inner Yj (i.val:Int)/\tis 3 (i.val:Int)=inner Js (i.val:Int)/\tis 2 (i.val:Int)=digP (i.val:Int)/\tis 1 (i.val:Int)=(cls (i.val:Int).toNat==2):=by decide+kernel
 have h:=this ⟨c.toNat,by omega⟩;have e:((c.toNat:Nat):Int)=c:=Zo;dsimp only at h;rw[e] at h;exact h
theorem YeS (s:ByteArray){p q:Int->Bool}(h:∀j,p (bt s j)=q (bt s j))(i:Nat)(hi:i<=s.size):decide (Yf s p i=s.size)=decide (Yf s q i=s.size):=by
 rw[decide_eq_decide,Yv s p _ i rfl hi,Yv s q _ i rfl hi];simp only[h]
theorem Yfn (s:ByteArray)(k:Int)(hk:k=1\/k=2\/k=3\/k=4)(w:World)(hs:s.size<=1000000):
 Calls Tryz.prog 227 #[.string s,.int .u8 k] w fun e w'=>e= .returned (.bool (decide (Yf s (tis k) 0=s.size)))/\w'=w:=by
 have hI:∀(j:Nat) (w:World),Calls Tryz.prog 249 #[.int .u8 (bt s j),.int .u8 k] w fun e w'=>e= .returned (.bool (tis k (bt s j)))/\w'=w:=fun j w=>Ymc _ _ (Yan s j) hk w;have HI:=Zh hI;have hY:(∀j,j<s.size->tis k (bt s j)=true)->decide (Yf s (tis k) 0=s.size)=true:=fun h=>YmB (Nat.zero_le _) (fun j _ hj=>h j hj);have hN:∀j,j<s.size->tis k (bt s j)=false->decide (Yf s (tis k) 0=s.size)=false:=fun j hj h=>YmD (Nat.zero_le _) hj h;have HY:=Zh hY;have HN:=Zh hN;clear hI hY hN hk;generalize tis k=p at HI HY HN⊢;generalize decide (Yf s p 0=s.size)=R at HY HN⊢;go_enter Tryz.func227,Tryz.ntmps227;go_wp2;go_loopw [8] (fun i wr=>∃n:Nat,n<=s.size/\i= .int .i64 n/\wr=w/\Hid (∀j,j<n->p (bt s j)=true)) (fun i _=>s.size - (intOf i).toNat)
 case atStart=>exact⟨0,Nat.zero_le _,rfl,rfl,Zh fun j hj=>by omega⟩
 case round=>
  obtain⟨n,hn,rfl,rfl,HK⟩:=hrel;by_cases hnl:n<s.size
  ·have l1:decide ((n:Int)<(s.size:Int))=true:=Zt;have l2:decide (n<s.size)=true:=decide_eq_true hnl;have wk:IntKind.i64.wrap ((n:Int)+1)=n+1:=IntWalk.i64_in _ Zo;have HX:=Zh (Je hnl);have hC:=fun w=>HI.out n w;by_cases hi:p (bt s n)=true
   ·rw[hi] at hC;have HP:=Zh hi;clear hi;go_wp2_with fail;rw[HX.out];refine(hC _).mono ?_;rintro e w' ⟨rfl,rfl⟩;clear hC;go_wp2;go_roundw
    case rel=>exact⟨n+1,by omega,by go_num,by trivial,Zh fun j hj=>by
     by_cases e:j=n
     ·rw[e]; exact HP.out
     ·exact HK.out j Zo⟩
    case measure=>simp[intOf]; omega
   ·have hi2:p (bt s n)=false:=by simpa using hi
    rw[hi2] at hC;have HP:=Zh hi2;clear hi hi2;go_wp2_with fail;rw[HX.out];refine(hC _).mono ?_;rintro e w' ⟨rfl,rfl⟩;clear hC;go_wp2;go_ret;exact⟨by rw[HN.out n hnl HP.out]; rfl,rfl⟩
  ·have l1:decide ((n:Int)<(s.size:Int))=false:=Zf;have l2:decide (n<s.size)=false:=decide_eq_false hnl;go_wp2;go_ret;exact⟨by rw[HY.out (fun j hj=>HK.out j Zo)]; rfl,rfl⟩
theorem Yjo (s:ByteArray)(h0:s.size≠0){n:Int}(h1:(s.size:Int)<=n)(hc:tis 1 (bt s 0)=true):Yh n s=decide (Yf s (tis 4) 0=s.size):=by
 have h2:=(Ych _ (Yan s 0) (YaU s 0)).2.2.2;rw[hc] at h2;have h4:tis 4 (bt s 0)=true:=by
  rw[(Ych _ (Yan s 0) (YaU s 0)).1];unfold inner;rw[<-h2]; rfl
 unfold Yh;rw[decide_eq_true h0,decide_eq_true h1,<-h2,YE Zo h4,<-YeS s (fun j=>(Ych _ (Yan s j) (YaU s j)).1) 1 Zo];rfl
theorem Yff (s:ByteArray)(n:Int)(w:World)(hn:0<=n)(hn2:n<=1000):
 Calls Tryz.prog 223 #[.string s,.int .i64 n] w fun e w'=>e= .returned (.bool (Yh n s))/\w'=w:=by
 by_cases h0:s.size=0
 ·obtain rfl:s=ByteArray.empty:=by simpa using h0
  have HR:Hid (Yh n ByteArray.empty=false):=by simp[Yh,Hid]
  go_enter Tryz.func223,Tryz.ntmps223;go_wp2;go_ret;exact⟨by rw[HR.out]; rfl,rfl⟩
 ·have hl:¬s.toList=[]:=YaJ h0;have hl2:s.toList.isEmpty=false:=by simpa using hl
  have hlt:0<s.size:=Zo;by_cases h1:(s.size:Int)<=n
  ·have g1:decide ((s.size:Int)<=n)=true:=decide_eq_true h1;have hB:=Je hlt;have hL:=fun w=>Ymc (bt s 0) 1 (Yan s 0) Zo w;have l0:decide (0<s.size)=true:=decide_eq_true hlt;by_cases hc:tis 1 (bt s 0)=true
   ·rw[hc] at hL;have hE:=fun w=>Yfn s 4 Zo w Zo;have hR:=Yjo s h0 h1 hc;have HB:=Zh hB;rw[<-hR] at hE;generalize Yh n s=R at hE⊢;clear hB hc hR;go_enter Tryz.func223,Tryz.ntmps223;go_wp2_with fail;rw[HB.out];refine(hL _).mono ?_;rintro e w' ⟨rfl,rfl⟩;clear hL;go_wp2_with fail;refine(hE _).mono ?_;rintro e w' ⟨rfl,rfl⟩;clear hE;go_wp2;go_ret;exact⟨by simp,rfl⟩
   ·have hc2:tis 1 (bt s 0)=false:=by simpa using hc
    have HR:Hid (Yh n s=false):=Zh (by
     unfold Yh;rw[<-(Ych _ (Yan s 0) (YaU s 0)).2.2.2,hc2];simp)
    rw[hc2] at hL;have HB:=Zh hB;clear hB hc hc2;go_enter Tryz.func223,Tryz.ntmps223;go_wp2_with fail;rw[HB.out];refine(hL _).mono ?_;rintro e w' ⟨rfl,rfl⟩;clear hL;go_wp2;go_ret;exact⟨by rw[HR.out]; simp,rfl⟩
  ·have g1:decide ((s.size:Int)<=n)=false:=decide_eq_false h1;have HR:Hid (Yh n s=false):=Zh (by unfold Yh; rw[g1]; simp);clear h1;go_enter Tryz.func223,Tryz.ntmps223;go_wp2;all_goals first
    |(go_ret; exact⟨by rw[HR.out]; simp,rfl⟩)
    |(exfalso; simp_all)
def negB (s:ByteArray):Bool:=Lib.hasPrefix s.data.toList YfK.data.toList
theorem YqV (s:ByteArray):negB s=(bt s 0==45):=by
 unfold negB Lib.hasPrefix;cases h:s.data.toList with
 |
  nil=>
  have hz:s.size=0:=by have:=congrArg List.length h; rw[Array.length_toList] at this; exact this
  rw[Jp Zo]; rfl
 |
  cons x l=>
  rw[YdY s h];have e1:YfK.data.toList.isPrefixOf (x::l)=(x==45):=by
   show([45]:List UInt8).isPrefixOf (x::l)=_;simp only[List.isPrefixOf,Bool.and_true];rw[Bool.eq_iff_iff,beq_iff_eq,beq_iff_eq];exact⟨fun q=>q.symm,fun q=>q.symm⟩
  rw[e1,Bool.eq_iff_iff,beq_iff_eq,beq_iff_eq];exact⟨fun q=>by subst q; rfl,fun q=>UInt8.toNat_inj.1 (by show _=45; omega)⟩
theorem YqS (s:ByteArray):s.toList=[48]↔s.size=1/\bt s 0=48:=by
 rw[Lib.toList_data];have hz:s.data.toList.length=s.size:=Array.length_toList;constructor
 ·intro h;rw[h] at hz;exact⟨hz.symm,by rw[YdY s h]; rfl⟩
 ·rintro⟨h1,h2⟩;rw[h1] at hz;cases h:s.data.toList with
  |nil=>rw[h] at hz; cases hz
  |
   cons x l=>
   rw[h] at hz;rw[YdY s h] at h2;have hl:l=[]:=List.eq_nil_of_length_eq_zero (by simpa using hz);rw[hl,UInt8.toNat_inj.1 (show x.toNat=(48:UInt8).toNat by show _=48; omega)]
theorem Ye1 (s:ByteArray):Y8 s=(decide ((numD s).size≠0)&&decide ((numD s).size<=500)&&decide (Yf (numD s) (tis 2) 0=(numD s).size)&&(bt (numD s) 0 != 48||decide ((numD s).size=1)&&!negB s)):=by
 unfold Y8;rw[YhB,Yf2,YeS (numD s) (fun j=>(Ych _ (Yan _ j) (YaU _ j)).2.2.1) 0 (Nat.zero_le _)];congr 1
 by_cases hb:bt (numD s) 0=48
 ·rw[show(bt (numD s) 0 != 48)=false by simpa using hb,Bool.false_or,Bool.false_or,Bool.eq_iff_iff,beq_iff_eq,YqS,YqV];rw[YmX] at hb⊢;unfold numT at hb⊢;by_cases h45:bt s 0=45
  ·rw[if_pos h45] at hb⊢;simp[h45]
  ·rw[if_neg h45] at hb⊢;simp[h45,hb]
 ·rw[show(bt (numD s) 0 != 48)=true by simpa using hb];rfl
theorem Ynm (s:ByteArray)(w:World)(hs:s.size<=1000000):
 Calls Tryz.prog 226 #[.string s] w fun e w'=>e= .returned (.bool (Y8 s))/\w'=w:=by
 have hP:Calls Tryz.prog 251 #[.string s,.string YfK] w fun e w'=>e= .returned (.tuple #[.string (numD s),.bool (negB s)])/\w'=w:=Tryz.strings_CutPrefix s YfK w;have hz:(numD s).size<=s.size:=by
  rw[YmX]; unfold numT; split
  ·rw[ByteArray.size_extract]; omega
  ·exact Nat.le_refl _
 rw[Ye1 s];generalize negB s=ng at hP⊢;generalize numD s=d at hP hz⊢;have hE:=fun w=>Yfn d 2 Zo w Zo;go_enter Tryz.func226,Tryz.ntmps226;by_cases h0:d.size=0
 ·obtain rfl:d=ByteArray.empty:=by simpa using h0
  clear hE;go_wp2_with fail;refine hP.mono ?_;rintro e w1 ⟨rfl,rfl⟩;clear hP;go_wp2;go_ret;exact⟨rfl,rfl⟩
 ·have hl:¬d.toList=[]:=YaJ h0;have hl2:d.toList.isEmpty=false:=by simpa using hl
  have hlt:0<d.size:=Zo;by_cases h1:d.size<=500
  ·have g1:decide ((500:Int)<(d.size:Int))=false:=Zf;have l0:decide (0<d.size)=true:=decide_eq_true hlt;have HB:=Zh (Je hlt);have h00:=Zh (And.intro h0 h1);cases hR:decide (Yf d (tis 2) 0=d.size) with
   |
    false=>
    simp only[hR] at hE;clear hR;go_wp2_with fail;refine hP.mono ?_;rintro e w1 ⟨rfl,rfl⟩;clear hP;go_wp2_with fail;refine(hE _).mono ?_;rintro e w1 ⟨rfl,rfl⟩;clear hE;go_wp2;go_ret;exact⟨by simp,rfl⟩
   |
    true=>
    simp only[hR] at hE;clear hR;by_cases hb:bt d 0=48
    ·have hx:(((d[0]'hlt).toNat:Int) != 48)=false:=by rw[HB.out]; simpa using hb
     have HN:Hid ((bt d 0 != 48)=false):=Zh (by simpa using hb);clear hb;go_wp2_with fail;refine hP.mono ?_;rintro e w1 ⟨rfl,rfl⟩;clear hP;go_wp2_with fail;refine(hE _).mono ?_;rintro e w1 ⟨rfl,rfl⟩;clear hE;go_wp2;all_goals go_ret
     all_goals
      refine⟨?_,rfl⟩;rw[decide_eq_true h00.out.1,decide_eq_true h00.out.2,HN.out];cases ng<;>simp_all<;>omega
    ·have hx:(((d[0]'hlt).toNat:Int) != 48)=true:=by rw[HB.out]; simpa using hb
     have HN:Hid ((bt d 0 != 48)=true):=Zh (by simpa using hb);clear hb;go_wp2_with fail;refine hP.mono ?_;rintro e w1 ⟨rfl,rfl⟩;clear hP;go_wp2_with fail;refine(hE _).mono ?_;rintro e w1 ⟨rfl,rfl⟩;clear hE;go_wp2;all_goals go_ret
     all_goals
      refine⟨?_,rfl⟩;rw[decide_eq_true h00.out.1,decide_eq_true h00.out.2,HN.out];simp
  ·have g1:decide ((500:Int)<(d.size:Int))=true:=Zt;have HN:Hid (decide (d.size<=500)=false):=Zh (decide_eq_false h1);clear hE;go_wp2_with fail;refine hP.mono ?_;rintro e w1 ⟨rfl,rfl⟩;clear hP;go_wp2;all_goals first
    |(go_ret; exact⟨by rw[HN.out]; simp,rfl⟩)
    |(exfalso; simp_all<;>omega)
end Go.Proofs.YteamjdmhdfjopaaGreatDoor
