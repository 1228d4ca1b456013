/- A part of the proof; it holds the texts Rg Sq Sr Tcd Tce Tcf Take Ss (names and blanks shortened). -/
import Derived.Test.YteamjdmhdfjopaaGreatDoorM9
import Derived.Test.YteamjdmhdfjopaaGreatDoorM1
import Derived.Test.YteamjdmhdfjopaaGreatDoorM3
import Derived.Test.YteamjdmhdfjopaaGreatDoorM2
import Derived.OwnWalk
import Derived.Test.YteamjdmhdfjopaaGreatDoorM10
import Derived.Lib.DecodeN
import Derived.Test.YteamjdmhdfjopaaGreatDoorM5
namespace Go.Proofs.YteamjdmhdfjopaaGreatDoor
open Go.RowKit
set_option maxRecDepth 100000
set_option maxHeartbeats 8000000
set_option linter.unusedVariables false
set_option linter.unusedSimpArgs false
def hexI (c:Int):Int:=(hexv c).getD (-1)
theorem Yox (c:Int)(h0:0<=c)(h1:c<=255):(cls c.toNat==3)=decide (48<=c/\c<=57):=by
 have:∀i:Fin 256,(cls (i.val:Int).toNat==3)=decide (48<=(i.val:Int)/\(i.val:Int)<=57):=by decide+kernel
 have h:=this ⟨c.toNat,by omega⟩;have e:((c.toNat:Nat):Int)=c:=Zo;dsimp only at h;rwa [e] at h
theorem Yhd (c:Int)(h0:0<=c)(h1:c<=255)(w:World):
 Calls Tryz.prog 219 #[.int .u8 c] w fun e w'=>e= .returned (.int .i64 (hexI c))/\w'=w:=by
 have hD:=fun w=>YP c h0 w;rw[Yox c h0 h1] at hD;by_cases d1:48<=c/\c<=57
 ·have HV:Hid (hexI c=c - 48):=Zh (by unfold hexI hexv; rw[if_pos d1]; rfl);rw[decide_eq_true d1] at hD;have e1:IntKind.u8.wrap (c - 48)=c - 48:=IntWalk.u8_in _ Zo;have e2:IntKind.i64.wrap (c - 48)=c - 48:=IntWalk.i64_in _ Zo;go_enter Tryz.func219,Tryz.ntmps219;go_wp2_with (go_at_call 157; refine(hD _).mono ?_; rintro e w' ⟨rfl,rfl⟩);go_ret;exact⟨by rw[HV.out]; rfl,rfl⟩
 rw[decide_eq_false d1] at hD;by_cases d2:97<=c/\c<=102
 ·have HV:Hid (hexI c=c - 87):=Zh (by unfold hexI hexv; rw[if_neg d1,if_pos d2]; rfl);have e1:IntKind.u8.wrap (c - 97)=c - 97:=IntWalk.u8_in _ Zo;have e2:IntKind.i64.wrap (c - 97)=c - 97:=IntWalk.i64_in _ Zo;have e3:IntKind.i64.wrap (c - 97+10)=c - 87:=(IntWalk.i64_in _ Zo).trans Zo;have g1:decide (97<=c)=true:=decide_eq_true d2.1;have g2:decide (c<=102)=true:=decide_eq_true d2.2;clear d1 d2;go_enter Tryz.func219,Tryz.ntmps219;go_wp2_with (go_at_call 157; refine(hD _).mono ?_; rintro e w' ⟨rfl,rfl⟩);go_ret;exact⟨by rw[HV.out]; rfl,rfl⟩
 by_cases d3:65<=c/\c<=70
 ·have HV:Hid (hexI c=c - 55):=Zh (by unfold hexI hexv; rw[if_neg d1,if_neg d2,if_pos d3]; rfl);have e1:IntKind.u8.wrap (c - 65)=c - 65:=IntWalk.u8_in _ Zo;have e2:IntKind.i64.wrap (c - 65)=c - 65:=IntWalk.i64_in _ Zo;have e3:IntKind.i64.wrap (c - 65+10)=c - 55:=(IntWalk.i64_in _ Zo).trans Zo;have g1:decide (97<=c)=false:=Zf;have g3:decide (65<=c)=true:=decide_eq_true d3.1;have g4:decide (c<=70)=true:=decide_eq_true d3.2;clear d1 d2 d3;go_enter Tryz.func219,Tryz.ntmps219;go_wp2_with (go_at_call 157; refine(hD _).mono ?_; rintro e w' ⟨rfl,rfl⟩);go_ret;exact⟨by rw[HV.out]; rfl,rfl⟩
 have HV:Hid (hexI c= -1):=Zh (by unfold hexI hexv; rw[if_neg d1,if_neg d2,if_neg d3]; rfl);by_cases g1:97<=c
 ·have g1':decide (97<=c)=true:=decide_eq_true g1;have g2:decide (c<=102)=false:=Zf;have g3:decide (65<=c)=true:=Zt;have g4:decide (c<=70)=false:=Zf;clear d1 d2 d3 g1;go_enter Tryz.func219,Tryz.ntmps219;go_wp2_with (go_at_call 157; refine(hD _).mono ?_; rintro e w' ⟨rfl,rfl⟩);go_ret;exact⟨by rw[HV.out]; rfl,rfl⟩
 by_cases g3:65<=c
 ·have g1':decide (97<=c)=false:=decide_eq_false g1;have g3':decide (65<=c)=true:=decide_eq_true g3;have g4:decide (c<=70)=false:=Zf;clear d1 d2 d3 g1 g3;go_enter Tryz.func219,Tryz.ntmps219;go_wp2_with (go_at_call 157; refine(hD _).mono ?_; rintro e w' ⟨rfl,rfl⟩);go_ret;exact⟨by rw[HV.out]; rfl,rfl⟩
 ·have g1':decide (97<=c)=false:=decide_eq_false g1;have g3':decide (65<=c)=false:=decide_eq_false g3;clear d1 d2 d3 g1 g3;go_enter Tryz.func219,Tryz.ntmps219;go_wp2_with (go_at_call 157; refine(hD _).mono ?_; rintro e w' ⟨rfl,rfl⟩);go_ret;exact⟨by rw[HV.out]; rfl,rfl⟩
theorem Yk5:∀x:Fin 256,inner JI (x.val:Int)=(inner Yj x.val&&!((x.val:Int)==45||(x.val:Int)==95)):=by decide+kernel
theorem YnB (c:Int)(h0:0<=c)(h1:c<=255):inner JI c=(inner Yj c&&!(c==45||c==95)):=by
 have h:=Yk5 ⟨c.toNat,by omega⟩;have e:((c.toNat:Nat):Int)=c:=Zo;dsimp only at h;rwa [e] at h
def runP (pl:Bool):Int->Bool:=if pl then inner JI else inner Yj
theorem Ygj (s:ByteArray)(i:Nat)(pl:Bool)(w:World)(hs:s.size<=1000000)(hi:i<=s.size):
 Calls Tryz.prog 184 #[.string s,.int .i64 i,.bool pl] w fun e w'=>e= .returned (.int .i64 (Yo s (runP pl) i))/\w'=w:=by
 generalize hR:Yo s (runP pl) i=R;have HR:=Zh hR;clear hR;go_enter Tryz.func184,Tryz.ntmps184;go_wp2;go_loopw [1] (fun x wr=>∃k:Nat,k<=s.size/\x= .int .i64 k/\wr=w/\Hid (Yo s (runP pl) k=R)) (fun x _=>s.size - (intOf x).toNat)
 case atStart=>exact⟨i,hi,rfl,rfl,HR⟩
 case round=>
  obtain⟨k,hk,rfl,rfl,HK⟩:=hrel;by_cases hkl:k<s.size
  ·have l1:decide ((k:Int)<(s.size:Int))=true:=Zt;have l2:decide (k<s.size)=true:=decide_eq_true hkl;have wk:IntKind.i64.wrap ((k:Int)+1)=k+1:=IntWalk.i64_in _ Zo;have HX:=Zh (Yq hkl);have hI:∀w,Calls Tryz.prog 118 #[.int .u8 ((s[k]'hkl).toNat:Int)] w fun e w'=>e= .returned (.bool (inner Yj (bt s k)))/\w'=w:=fun w=>by
    rw[HX.out]; exact YdF _ (YB s k) (Jk s k) w
   have HN:=Zh (YnB (bt s k) (YB s k) (Jk s k));cases hin:inner Yj (bt s k) with
   |
    false=>
    rw[hin] at hI;have HE:Hid (R=k):=Zh (by
     rw[<-HK.out];refine Yk ?_;rintro⟨_,q⟩;unfold runP at q;cases pl with
     |true=>rw[if_pos rfl,HN.out,hin] at q; cases q
     |false=>rw[if_neg Zd,hin] at q; cases q)
    clear hin;go_wp2_with (go_at_call 118; refine(hI _).mono ?_; rintro e w' ⟨rfl,rfl⟩);go_ret;exact⟨by rw[HE.out]; rfl,rfl⟩
   |
    true=>
    rw[hin] at hI;cases pl with
    |
     false=>
     have HK2:Hid (Yo s (runP false) (k+1)=R):=Zh (by rw[<-HK.out]; exact(YD hkl hin).symm);clear hin;go_wp2_with (go_at_call 118; refine(hI _).mono ?_; rintro e w' ⟨rfl,rfl⟩);go_roundw
     case rel=>exact⟨k+1,by omega,by go_num,by trivial,HK2⟩
     case measure=>simp[intOf]; omega
    |
     true=>
     by_cases h45:((s[k]'hkl).toNat:Int)=45
     ·have HE:Hid (R=k):=Zh (by
       rw[<-HK.out];refine Yk ?_;rintro⟨_,q⟩;have q:inner JI (bt s k)=true:=q;rw[HN.out,<-HX.out,h45] at q;exact absurd q Zd)
      have b45:(((s[k]'hkl).toNat:Int)==45)=true:=by simpa using h45
      clear hin h45;go_wp2_with (go_at_call 118; refine(hI _).mono ?_; rintro e w' ⟨rfl,rfl⟩);go_ret;exact⟨by rw[HE.out]; rfl,rfl⟩
     by_cases h95:((s[k]'hkl).toNat:Int)=95
     ·have HE:Hid (R=k):=Zh (by
       rw[<-HK.out];refine Yk ?_;rintro⟨_,q⟩;have q:inner JI (bt s k)=true:=q;rw[HN.out,<-HX.out,h95] at q;exact absurd q Zd)
      have b45:(((s[k]'hkl).toNat:Int)==45)=false:=by simpa using h45
      have b95:(((s[k]'hkl).toNat:Int)==95)=true:=by simpa using h95
      clear hin h45 h95;go_wp2_with (go_at_call 118; refine(hI _).mono ?_; rintro e w' ⟨rfl,rfl⟩);go_ret;exact⟨by rw[HE.out]; rfl,rfl⟩
     have b45:(((s[k]'hkl).toNat:Int)==45)=false:=by simpa using h45
     have b95:(((s[k]'hkl).toNat:Int)==95)=false:=by simpa using h95
     have HK2:Hid (Yo s (runP true) (k+1)=R):=Zh (by
      rw[<-HK.out];refine(YD hkl ?_).symm;show inner JI (bt s k)=true;rw[HN.out,hin,<-HX.out,b45,b95]; rfl)
     clear hin h45 h95;go_wp2_with (go_at_call 118; refine(hI _).mono ?_; rintro e w' ⟨rfl,rfl⟩);go_roundw
     case rel=>exact⟨k+1,by omega,by go_num,by trivial,HK2⟩
     case measure=>simp[intOf]; omega
  ·have l1:decide ((k:Int)<(s.size:Int))=false:=Zf;have HE:Hid (R=k):=Zh (by rw[<-HK.out]; exact Yk Zo);go_wp2;go_ret;exact⟨by rw[HE.out]; rfl,rfl⟩
theorem Js {P:Program}{fn:Func}{p q:Tmp}{ty:TypeId}(h:fn.results=#[.tmp q,.cell p ty])(tmps:Array Value)(w:World)(g:Nat)(t:TypeId)(cs:Array Value)(fr:Nat×Nat)(d:TypeDesc)(x:Value)
 (hp:tmps.getD p undef= .pointer (some ⟨g,0,none⟩))(hq:tmps.getD q undef=x)(hg:w.heap[g]? =some (.cells cs t fr))
 (hu:P.underlying ty=some d)(hd:(match d with | .struct _ | .array _ _=>true | _=>false)=true)(hi:(P.info? ty).map (·.size)=some cs.size):
 (results fn tmps).run P w= .ok (.tuple #[x,.agg cs]) w:=by
 have hp':tmps[p]?.getD undef= .pointer (some ⟨g,0,none⟩):=by simpa using hp
 have hq':tmps[q]?.getD undef=x:=by simpa using hq
 simp[results,h,hp',hq',asAddr,run_loadVar_row w g t ty cs fr d hg hu hd hi]
theorem YX {P:Program}{fn:Func}{p q r:Tmp}{ty ty2:TypeId}(h:fn.results=#[.cell p ty,.tmp q,.cell r ty2])(tmps:Array Value)(w:World)(g g2:Nat)(t t2:TypeId)(cs cs2:Array Value)(fr fr2:Nat×Nat)(d d2:TypeDesc)(x:Value)
 (hp:tmps.getD p undef= .pointer (some ⟨g,0,none⟩))(hq:tmps.getD q undef=x)(hr:tmps.getD r undef= .pointer (some ⟨g2,0,none⟩))(hg:w.heap[g]? =some (.cells cs t fr))(hg2:w.heap[g2]? =some (.cells cs2 t2 fr2))
 (hu:P.underlying ty=some d)(hd:(match d with | .struct _ | .array _ _=>true | _=>false)=true)(hi:(P.info? ty).map (·.size)=some cs.size)
 (hu2:P.underlying ty2=some d2)(hd2:(match d2 with | .struct _ | .array _ _=>true | _=>false)=true)(hi2:(P.info? ty2).map (·.size)=some cs2.size):
 (results fn tmps).run P w= .ok (.tuple #[.agg cs,x,.agg cs2]) w:=by
 have hp':tmps[p]?.getD undef= .pointer (some ⟨g,0,none⟩):=by simpa using hp
 have hq':tmps[q]?.getD undef=x:=by simpa using hq
 have hr':tmps[r]?.getD undef= .pointer (some ⟨g2,0,none⟩):=by simpa using hr
 simp[results,h,hp',hq',hr',asAddr,run_loadVar_row w g t ty cs fr d hg hu hd hi,run_loadVar_row w g2 t2 ty2 cs2 fr2 d2 hg2 hu2 hd2 hi2]
def Yf (a c:Int):Array Value:=#[.int .i64 a,.int .i64 c]
theorem YJ (a c:Int):(Yf a c).all (·.oneCell')=true:=by simp[Yf,Value.oneCell']
theorem Jt (cs:Array Value)(h:cs.size=2):(Tryz.prog.info? 211).map (·.size)=some cs.size:=by rw[h]; kernel_rfl
def skipV:YdN->Int×Int×Int
 |.err x=>(x,x,42)
 |.ok j _=>(j,0,0)
def JZ (s:ByteArray)(T:Int×Int×Int)(k:Nat):Prop:=∃n sp,s.size - k<n/\skipV (Y7 s n k sp)=T
section
variable {s:ByteArray}{T:Int×Int×Int}{k:Nat}
theorem JZ.end_ (h:JZ s T k)(hk:s.size<=k):T=((k:Int),(0:Int),(0:Int)):=by
 obtain⟨n,sp,hn,h⟩:=h;obtain⟨n,rfl⟩:∃m,n=m+1:=⟨n - 1,by omega⟩;unfold Y7 at h;rw[if_neg Zo] at h;exact h.symm
theorem JZ.white (h:JZ s T k)(hk:k<s.size)(hw:cls (bt s k).toNat=1):JZ s T (k+1):=by
 obtain⟨n,sp,hn,h⟩:=h;obtain⟨n,rfl⟩:∃m,n=m+1:=⟨n - 1,by omega⟩;unfold Y7 at h;rw[if_pos hk,if_pos hw] at h;exact⟨n,sp,by omega,h⟩
theorem JZ.star (h:JZ s T k)(hk:k<s.size)(hw:¬cls (bt s k).toNat=1)(hs:Ji s k=true)(hl:k<Ym s k):JZ s T (Ym s k):=by
 obtain⟨n,sp,hn,h⟩:=h;obtain⟨n,rfl⟩:∃m,n=m+1:=⟨n - 1,by omega⟩;unfold Y7 at h;rw[if_pos hk,if_neg hw,if_pos hs] at h;exact⟨n,_,by omega,h⟩
theorem JZ.bad (h:JZ s T k)(hk:k<s.size)(hw:¬cls (bt s k).toNat=1)(hs:Ji s k=false)(ho:isOpen s k=true)(hc:Yaj s (k+2)=none):T=((k:Int),(k:Int),(42:Int)):=by
 obtain⟨n,sp,hn,h⟩:=h;obtain⟨n,rfl⟩:∃m,n=m+1:=⟨n - 1,by omega⟩;unfold Y7 at h;rw[if_pos hk,if_neg hw,if_neg (by simp[hs]),if_pos ho,hc] at h;exact h.symm
theorem JZ.com (h:JZ s T k)(hk:k<s.size)(hw:¬cls (bt s k).toNat=1)(hs:Ji s k=false)(ho:isOpen s k=true){e:Nat}(hc:Yaj s (k+2)=some e)(hl:k<e):JZ s T e:=by
 obtain⟨n,sp,hn,h⟩:=h;obtain⟨n,rfl⟩:∃m,n=m+1:=⟨n - 1,by omega⟩;unfold Y7 at h;rw[if_pos hk,if_neg hw,if_neg (by simp[hs]),if_pos ho,hc] at h;exact⟨n,_,by omega,h⟩
theorem JZ.stop (h:JZ s T k)(hk:k<s.size)(hw:¬cls (bt s k).toNat=1)(hs:Ji s k=false)(ho:isOpen s k=false):T=((k:Int),(0:Int),(0:Int)):=by
 obtain⟨n,sp,hn,h⟩:=h;obtain⟨n,rfl⟩:∃m,n=m+1:=⟨n - 1,by omega⟩;unfold Y7 at h;rw[if_pos hk,if_neg hw,if_neg (by simp[hs]),if_neg (by simp[ho])] at h;exact h.symm
end
theorem Yoy {s:ByteArray}{i:Nat}(h:i+1<s.size)(h1:bt s i=42/\bt s (i+1)=47):Yaj s i=some (i+2):=by
 unfold Yaj;rw[show s.size - i=(s.size - i - 1)+1 by omega,comN,if_pos h,if_pos h1]
theorem Yne {s:ByteArray}{i:Nat}(h:i+1<s.size)(h1:¬(bt s i=42/\bt s (i+1)=47)):Yaj s i=Yaj s (i+1):=by
 unfold Yaj;rw[show s.size - i=(s.size - (i+1))+1 by omega,comN,if_pos h,if_neg h1]
theorem YmX {s:ByteArray}{i:Nat}(h:¬i+1<s.size):Yaj s i=none:=by
 unfold Yaj;cases s.size - i with
 |zero=>rfl
 |succ n=>rw[comN,if_neg h]
theorem YaM {W0 w:World}{X A C a b c:Int}(h:(X,A,C)=(a,b,c))(hb:Below w.heap.size w W0):
 Ending.returned (.tuple #[.int .i64 a,.agg (Yf b c)])=Ending.returned (.tuple #[.int .i64 X,.agg #[.int .i64 A,.int .i64 C]])/\Below w.heap.size w (W0.setRow w.heap.size (Yf b c)):=by
 cases h;exact⟨rfl,hb.trans ⟨rfl,rfl,rfl,by simp,fun k hk=>setRow_other _ _ _ _ Zo⟩⟩
theorem Yg8 (s:ByteArray)(i:Nat)(w:World)(hs:s.size<=1000000)(hi:i<=s.size)(X A C:Int)(hT:JZ s (X,A,C) i):
 Calls Tryz.prog 134 #[.string s,.int .i64 i] w fun e w'=>e= .returned (.tuple #[.int .i64 X,.agg #[.int .i64 A,.int .i64 C]])/\Below w.heap.size w w':=by
 have HT:=Zh hT;clear hT;go_enter Tryz.func134,Tryz.ntmps134;go_wp2;generalize hW0:World.alloc _ _=W0;have hE:W0.heap[w.heap.size]? =some (.cells (Yf 0 0) 211 (0,0)):=by rw[<-hW0]; exact heap_alloc_new w _
 have HBW:Hid (Below w.heap.size w W0):=Zh (by rw[<-hW0]; exact below_alloc1 _ _);clear hW0;go_loopw [1] (fun x wr=>∃k:Nat,k<=s.size/\x= .int .i64 k/\wr=W0/\Hid (JZ s (X,A,C) k)) (fun x _=>s.size - (intOf x).toNat)
 case atStart=>exact⟨i,hi,rfl,rfl,HT⟩
 case round=>
  obtain⟨k,hk,rfl,rfl,HK⟩:=hrel;by_cases hkl:k<s.size
  ·have l1:decide ((k:Int)<(s.size:Int))=true:=Zt;have l2:decide (k<s.size)=true:=decide_eq_true hkl;have wk:IntKind.i64.wrap ((k:Int)+1)=k+1:=IntWalk.i64_in _ Zo;have wk2:IntKind.i64.wrap ((k:Int)+2)=k+2:=IntWalk.i64_in _ Zo;have HX:Hid (((s[k]'hkl).toNat:Int)=bt s k):=Yq hkl;have hWh:∀w,Calls Tryz.prog 180 #[.int .u8 ((s[k]'hkl).toNat:Int)] w fun e w'=>e= .returned (.bool (cls (bt s k).toNat==1))/\w'=w:=fun w=>by
    rw[HX.out]; exact Yjp _ (YB s k) w
   by_cases hw:cls (bt s k).toNat=1
   ·have HK2:Hid (JZ s (X,A,C) (k+1)):=Zh (HK.out.white hkl hw);rw[show(cls (bt s k).toNat==1)=true by simpa using hw] at hWh;clear hw;go_wp2_with (go_at_call 180; refine(hWh _).mono ?_; rintro e w' ⟨rfl,rfl⟩);go_roundw
    case rel=>exact⟨k+1,by omega,by go_num,by trivial,HK2⟩
    case measure=>simp[intOf]; omega
   have HW:=Zh hw;rw[show(cls (bt s k).toNat==1)=false by simpa using hw] at hWh;clear hw;by_cases h42:((s[k]'hkl).toNat:Int)=42
   ·have HB:Hid (bt s k=42):=Zh (HX.out.symm.trans h42);have b42:(((s[k]'hkl).toNat:Int)==42)=true:=beq_iff_eq.2 h42;have b47:(((s[k]'hkl).toNat:Int)==47)=false:=by rw[h42]; rfl
    clear h42;have HO:Hid (isOpen s k=false):=Zh (by unfold isOpen; rw[HB.out]; rfl);by_cases hk0:k=0
    ·have HS:Hid (Ji s k=true):=Zh (by unfold Ji; rw[HB.out,hk0]; rfl);have hk0':((k:Int)==0)=true:=by rw[beq_iff_eq]; omega
     clear hk0;have HL:Hid (k<Ym s k/\Ym s k<=s.size):=Zh (by
      have h1:Ym s k=Ym s (k+1):=YD hkl (by unfold YbV; rw[HB.out]; rfl);have h2:=YI s YbV (k+1) hkl;unfold Ym at h1⊢; omega)
     have HK2:Hid (JZ s (X,A,C) (Ym s k)):=Zh (HK.out.star hkl HW.out HS.out HL.out.1);go_wp2_with (go_at_call 180; refine(hWh _).mono ?_; rintro e w' ⟨rfl,rfl⟩);go_loopw [1] (fun x w2=>∃k2:Nat,k<=k2/\k2<=s.size/\x= .int .i64 k2/\w2=w'/\Hid (Ym s k2=Ym s k)) (fun x _=>s.size - (intOf x).toNat)
     case atStart=>exact⟨k,Nat.le_refl _,by omega,rfl,rfl,rfl⟩
     case round=>
      obtain⟨k2,hkk,hk2,rfl,rfl,HE2⟩:=hrel;clear hWh;by_cases hl2:k2<s.size
      ·have m1:decide ((k2:Int)<(s.size:Int))=true:=Zt;have m2:decide (k2<s.size)=true:=decide_eq_true hl2;have mk:IntKind.i64.wrap ((k2:Int)+1)=k2+1:=IntWalk.i64_in _ Zo;have HB2:Hid (((s[k2]'hl2).toNat:Int)=bt s k2):=Yq hl2;by_cases h10:((s[k2]'hl2).toNat:Int)=10
       ·have HE3:Hid (Ym s k=k2):=Zh (by
         rw[<-HE2.out]; exact Yk (by rintro⟨_,q⟩; unfold YbV at q; rw[<-HB2.out,h10] at q; exact absurd q Zd))
        have n10:(((s[k2]'hl2).toNat:Int) != 10)=false:=by simpa using h10
        clear h10;go_wp2;go_roundw
        case rel=>exact⟨k2,by omega,rfl,by trivial,by rw[<-HE3.out]; exact HK2⟩
        case measure=>have:=HL.out; have:=HE3.out; simp[intOf]; omega
       ·have HE3:Hid (Ym s (k2+1)=Ym s k):=Zh (by
         rw[<-HE2.out]; exact(YD hl2 (by unfold YbV; rw[<-HB2.out]; simpa using h10)).symm)
        have n10:(((s[k2]'hl2).toNat:Int) != 10)=true:=by simpa using h10
        clear h10;go_wp2;go_roundw
        case rel=>exact⟨k2+1,by omega,by omega,by go_num,by trivial,HE3⟩
        case measure=>simp[intOf]; omega
      ·have m1:decide ((k2:Int)<(s.size:Int))=false:=Zf;have HE3:Hid (Ym s k=k2):=Zh (by rw[<-HE2.out]; exact Yk Zo);go_wp2;go_roundw
       case rel=>exact⟨k2,by omega,rfl,by trivial,by rw[<-HE3.out]; exact HK2⟩
       case measure=>have:=HL.out; have:=HE3.out; simp[intOf]; omega
    ·obtain⟨m,hm⟩:∃m,m+1=k:=⟨k - 1,by omega⟩;have hk0':((k:Int)==0)=false:=by rw[beq_eq_false_iff_ne]; omega
     have hpm:IntKind.i64.wrap ((k:Int) - 1)=(m:Int):=(IntWalk.i64_in _ Zo).trans Zo;have hml:m<s.size:=Zo;have hmd:decide (m<s.size)=true:=decide_eq_true hml;have HXm:Hid (((s[m]'hml).toNat:Int)=bt s (k - 1)):=Zh (by rw[<-hm,Nat.add_sub_cancel]; exact Yq hml);by_cases h10:((s[m]'hml).toNat:Int)=10
     ·have HS:Hid (Ji s k=true):=Zh (by unfold Ji; rw[HB.out,<-HXm.out,h10]; simp);have n10:(((s[m]'hml).toNat:Int)==10)=true:=beq_iff_eq.2 h10;clear hk0 hm h10;have HL:Hid (k<Ym s k/\Ym s k<=s.size):=Zh (by
       have h1:Ym s k=Ym s (k+1):=YD hkl (by unfold YbV; rw[HB.out]; rfl);have h2:=YI s YbV (k+1) hkl;unfold Ym at h1⊢; omega)
      have HK2:Hid (JZ s (X,A,C) (Ym s k)):=Zh (HK.out.star hkl HW.out HS.out HL.out.1);go_wp2_with (go_at_call 180; refine(hWh _).mono ?_; rintro e w' ⟨rfl,rfl⟩);go_loopw [1] (fun x w2=>∃k2:Nat,k<=k2/\k2<=s.size/\x= .int .i64 k2/\w2=w'/\Hid (Ym s k2=Ym s k)) (fun x _=>s.size - (intOf x).toNat)
      case atStart=>exact⟨k,Nat.le_refl _,by omega,rfl,rfl,rfl⟩
      case round=>
       obtain⟨k2,hkk,hk2,rfl,rfl,HE2⟩:=hrel;clear hWh;by_cases hl2:k2<s.size
       ·have m1:decide ((k2:Int)<(s.size:Int))=true:=Zt;have m2:decide (k2<s.size)=true:=decide_eq_true hl2;have mk:IntKind.i64.wrap ((k2:Int)+1)=k2+1:=IntWalk.i64_in _ Zo;have HB2:Hid (((s[k2]'hl2).toNat:Int)=bt s k2):=Yq hl2;by_cases h10':((s[k2]'hl2).toNat:Int)=10
        ·have HE3:Hid (Ym s k=k2):=Zh (by
          rw[<-HE2.out]; exact Yk (by rintro⟨_,q⟩; unfold YbV at q; rw[<-HB2.out,h10'] at q; exact absurd q Zd))
         have n10:(((s[k2]'hl2).toNat:Int) != 10)=false:=by simpa using h10'
         clear h10';go_wp2;go_roundw
         case rel=>exact⟨k2,by omega,rfl,by trivial,by rw[<-HE3.out]; exact HK2⟩
         case measure=>have:=HL.out; have:=HE3.out; simp[intOf]; omega
        ·have HE3:Hid (Ym s (k2+1)=Ym s k):=Zh (by
          rw[<-HE2.out]; exact(YD hl2 (by unfold YbV; rw[<-HB2.out]; simpa using h10')).symm)
         have n10:(((s[k2]'hl2).toNat:Int) != 10)=true:=by simpa using h10'
         clear h10';go_wp2;go_roundw
         case rel=>exact⟨k2+1,by omega,by omega,by go_num,by trivial,HE3⟩
         case measure=>simp[intOf]; omega
       ·have m1:decide ((k2:Int)<(s.size:Int))=false:=Zf;have HE3:Hid (Ym s k=k2):=Zh (by rw[<-HE2.out]; exact Yk Zo);go_wp2;go_roundw
        case rel=>exact⟨k2,by omega,rfl,by trivial,by rw[<-HE3.out]; exact HK2⟩
        case measure=>have:=HL.out; have:=HE3.out; simp[intOf]; omega
     ·have n10':(((s[m]'hml).toNat:Int)==10)=false:=by simpa using h10
      have HS:Hid (Ji s k=false):=Zh (by unfold Ji; rw[HB.out,<-HXm.out,n10',decide_eq_false hk0]; rfl);have HD:Hid ((X,A,C)=((k:Int),(0:Int),(0:Int))):=Zh (HK.out.stop hkl HW.out HS.out HO.out);clear hk0 hm h10;go_wp2_with (first | (go_at_call 180; refine(hWh _).mono ?_; rintro e w' ⟨rfl,rfl⟩) | (refine wpList_store_row rfl 211 (.tmp 5) (.tmp 12) rfl w.heap.size (Yf 0 0) rfl rfl 211 (Yf 0 0) hE (Jt _ rfl) rfl (YJ _ _) ?_));refine bodyPost_ret (v:=.tuple #[.int .i64 k,.agg (Yf 0 0)]) ?_ rfl ?_
      ·exact Js rfl _ _ w.heap.size 211 (Yf 0 0) (0,0) _ _ rfl rfl (setRow_heap _ _ _ _ _ _ (by exact hE)) Tryz.underlying211 rfl (Jt _ rfl)
      exact YaM HD.out HBW.out
   ·have n42:(
     ((s[k]'hkl).toNat:Int)==42)=false:=by simpa using h42
    have HS:Hid (Ji s k=false):=Zh (by unfold Ji; rw[show(bt s k==42)=false by rw[<-HX.out]; exact n42]; rfl);clear h42;by_cases h47:((s[k]'hkl).toNat:Int)=47
    ·by_cases hk1:k+1<s.size
     ·have m1:decide ((k:Int)+1<(s.size:Int))=true:=Zt;have m3:decide (k+1<s.size)=true:=decide_eq_true hk1;have HX1:Hid (((s[k+1]'hk1).toNat:Int)=bt s (k+1)):=Yq hk1;by_cases h42':((s[k+1]'hk1).toNat:Int)=42
      ·have HO:Hid (isOpen s k=true):=Zh (by unfold isOpen; rw[<-HX.out,<-HX1.out,h47,h42']; rfl);have b47:(((s[k]'hkl).toNat:Int)==47)=true:=beq_iff_eq.2 h47;have b42':(((s[k+1]'hk1).toNat:Int)==42)=true:=beq_iff_eq.2 h42';clear h47 h42';go_wp2_with (go_at_call 180; refine(hWh _).mono ?_; rintro e w' ⟨rfl,rfl⟩);go_loopw [6] (fun x w2=>∃e2:Nat,k+2<=e2/\e2<=s.size/\x= .int .i64 e2/\w2=w'/\Hid (Yaj s e2=Yaj s (k+2))) (fun x _=>s.size - (intOf x).toNat)
       case atStart=>exact⟨k+2,Nat.le_refl _,by omega,by go_num,rfl,rfl⟩
       case round=>
        obtain⟨e2,hke,he2,rfl,rfl,HE2⟩:=hrel;clear hWh;have mk:IntKind.i64.wrap ((e2:Int)+1)=e2+1:=IntWalk.i64_in _ Zo;have mk2:IntKind.i64.wrap ((e2:Int)+2)=e2+2:=IntWalk.i64_in _ Zo;by_cases hl2:e2+1<s.size
        ·have m1:decide ((e2:Int)+1<(s.size:Int))=true:=Zt;have m1':decide ((s.size:Int)<=(e2:Int)+1)=false:=Zf;have hl3:e2<s.size:=Zo;have m2:decide (e2<s.size)=true:=decide_eq_true hl3;have m3:decide (e2+1<s.size)=true:=decide_eq_true hl2;have HB2:Hid (((s[e2]'hl3).toNat:Int)=bt s e2):=Yq hl3;have HB3:Hid (((s[e2+1]'hl2).toNat:Int)=bt s (e2+1)):=Yq hl2;by_cases h42:((s[e2]'hl3).toNat:Int)=42
         ·by_cases h47:((s[e2+1]'hl2).toNat:Int)=47
          ·have HC:Hid (Yaj s (k+2)=some (e2+2)):=Zh (by rw[<-HE2.out]; exact Yoy hl2 ⟨HB2.out.symm.trans h42,HB3.out.symm.trans h47⟩);have HK2:Hid (JZ s (X,A,C) (e2+2)):=Zh (HK.out.com hkl HW.out HS.out HO.out HC.out Zo);go_wp2;go_roundw
           case rel=>exact⟨e2+2,by omega,by go_num,by trivial,HK2⟩
           case measure=>simp[intOf]; omega
          ·have n47:(((s[e2+1]'hl2).toNat:Int)==47)=false:=by simpa using h47
           have HE3:Hid (Yaj s (e2+1)=Yaj s (k+2)):=Zh (by rw[<-HE2.out]; exact(Yne hl2 (by rintro⟨_,q⟩; exact h47 (HB3.out.trans q))).symm);clear h47;go_wp2;go_roundw
           case rel=>exact⟨e2+1,by omega,by omega,by go_num,by trivial,HE3⟩
           case measure=>simp[intOf]; omega
         ·have n42:(((s[e2]'hl3).toNat:Int)==42)=false:=by simpa using h42
          have HE3:Hid (Yaj s (e2+1)=Yaj s (k+2)):=Zh (by rw[<-HE2.out]; exact(Yne hl2 (by rintro⟨q,_⟩; exact h42 (HB2.out.trans q))).symm);clear h42;go_wp2;go_roundw
          case rel=>exact⟨e2+1,by omega,by omega,by go_num,by trivial,HE3⟩
          case measure=>simp[intOf]; omega
        ·have m1:decide ((e2:Int)+1<(s.size:Int))=false:=Zf;have m1':decide ((s.size:Int)<=(e2:Int)+1)=true:=Zt;have HD:Hid ((X,A,C)=((k:Int),(k:Int),(42:Int))):=Zh (HK.out.bad hkl HW.out HS.out HO.out (by rw[<-HE2.out]; exact YmX hl2));go_wp2_with (refine wpList_store_row rfl 211 (.tmp 5) (.tmp 97) rfl w.heap.size (Yf k 42) rfl rfl 211 (Yf 0 0) hE (Jt _ rfl) rfl (YJ _ _) ?_);refine bodyPost_ret (v:=.tuple #[.int .i64 k,.agg (Yf k 42)]) ?_ rfl ?_
         ·exact Js rfl _ _ w.heap.size 211 (Yf k 42) (0,0) _ _ rfl rfl (setRow_heap _ _ _ _ _ _ (by exact hE)) Tryz.underlying211 rfl (Jt _ rfl)
         exact YaM HD.out HBW.out
      ·have n42':(((s[k+1]'hk1).toNat:Int)==42)=false:=by simpa using h42'
       have HO:Hid (isOpen s k=false):=Zh (by unfold isOpen; rw[show(bt s (k+1)==42)=false by rw[<-HX1.out]; exact n42',Bool.and_false]);have HD:Hid ((X,A,C)=((k:Int),(0:Int),(0:Int))):=Zh (HK.out.stop hkl HW.out HS.out HO.out);have b47:(((s[k]'hkl).toNat:Int)==47)=true:=beq_iff_eq.2 h47;clear h42' h47;go_wp2_with (first | (go_at_call 180; refine(hWh _).mono ?_; rintro e w' ⟨rfl,rfl⟩) | (refine wpList_store_row rfl 211 (.tmp 5) (.tmp 12) rfl w.heap.size (Yf 0 0) rfl rfl 211 (Yf 0 0) hE (Jt _ rfl) rfl (YJ _ _) ?_));refine bodyPost_ret (v:=.tuple #[.int .i64 k,.agg (Yf 0 0)]) ?_ rfl ?_
       ·exact Js rfl _ _ w.heap.size 211 (Yf 0 0) (0,0) _ _ rfl rfl (setRow_heap _ _ _ _ _ _ (by exact hE)) Tryz.underlying211 rfl (Jt _ rfl)
       exact YaM HD.out HBW.out
     ·have m1:decide ((k:Int)+1<(s.size:Int))=false:=Zf;have HO:Hid (isOpen s k=false):=Zh (by unfold isOpen; rw[JU (show s.size<=k+1 by omega)]; simp);have b47:(((s[k]'hkl).toNat:Int)==47)=true:=beq_iff_eq.2 h47;clear h47;have HD:Hid ((X,A,C)=((k:Int),(0:Int),(0:Int))):=Zh (HK.out.stop hkl HW.out HS.out HO.out);go_wp2_with (first | (go_at_call 180; refine(hWh _).mono ?_; rintro e w' ⟨rfl,rfl⟩) | (refine wpList_store_row rfl 211 (.tmp 5) (.tmp 12) rfl w.heap.size (Yf 0 0) rfl rfl 211 (Yf 0 0) hE (Jt _ rfl) rfl (YJ _ _) ?_));refine bodyPost_ret (v:=.tuple #[.int .i64 k,.agg (Yf 0 0)]) ?_ rfl ?_
      ·exact Js rfl _ _ w.heap.size 211 (Yf 0 0) (0,0) _ _ rfl rfl (setRow_heap _ _ _ _ _ _ (by exact hE)) Tryz.underlying211 rfl (Jt _ rfl)
      exact YaM HD.out HBW.out
    ·have n47:(((s[k]'hkl).toNat:Int)==47)=false:=by simpa using h47
     have HO:Hid (isOpen s k=false):=Zh (by unfold isOpen; rw[show(bt s k==47)=false by rw[<-HX.out]; exact n47]; rfl);have HD:Hid ((X,A,C)=((k:Int),(0:Int),(0:Int))):=Zh (HK.out.stop hkl HW.out HS.out HO.out);clear h47;go_wp2_with (first | (go_at_call 180; refine(hWh _).mono ?_; rintro e w' ⟨rfl,rfl⟩) | (refine wpList_store_row rfl 211 (.tmp 5) (.tmp 12) rfl w.heap.size (Yf 0 0) rfl rfl 211 (Yf 0 0) hE (Jt _ rfl) rfl (YJ _ _) ?_));refine bodyPost_ret (v:=.tuple #[.int .i64 k,.agg (Yf 0 0)]) ?_ rfl ?_
     ·exact Js rfl _ _ w.heap.size 211 (Yf 0 0) (0,0) _ _ rfl rfl (setRow_heap _ _ _ _ _ _ (by exact hE)) Tryz.underlying211 rfl (Jt _ rfl)
     exact YaM HD.out HBW.out
  ·have l1:decide ((k:Int)<(s.size:Int))=false:=Zf;have HD:Hid ((X,A,C)=((k:Int),(0:Int),(0:Int))):=Zh (HK.out.end_ Zo);go_wp2_with (refine wpList_store_row rfl 211 (.tmp 5) (.tmp 101) rfl w.heap.size (Yf 0 0) rfl rfl 211 (Yf 0 0) hE (Jt _ rfl) rfl (YJ _ _) ?_);refine bodyPost_ret (v:=.tuple #[.int .i64 k,.agg (Yf 0 0)]) ?_ rfl ?_
   ·exact Js rfl _ _ w.heap.size 211 (Yf 0 0) (0,0) _ _ rfl rfl (setRow_heap _ _ _ _ _ _ (by exact hE)) Tryz.underlying211 rfl (Jt _ rfl)
   exact YaM HD.out HBW.out
section
variable {s:ByteArray}{i e:Nat}{q:List (Nat×Nat)}
end
theorem YcW {s:ByteArray}{i e j:Nat}(he:e<=s.size)(hj:i+j<e):bt (s.extract i e) j=bt s (i+j):=by
 have hz:j<(s.extract i e).size:=by rw[ByteArray.size_extract]; omega
 rw[<-Yq hz,<-Yq (show i+j<s.size by omega),ByteArray.getElem_extract]
theorem Ybn {s:ByteArray}{i e:Nat}(he:e<=s.size):(s.extract i e).size=e - i:=by rw[ByteArray.size_extract]; omega
theorem Ygi (s:ByteArray)(p:Int->Bool):∀(n i:Nat),s.size - i=n->∀j,i<=j->j<Yo s p i->p (bt s j)=true
 |0,i,hn,j,h1,h2=>by rw[Yk Zo] at h2; omega
 |
  n+1,i,hn,j,h1,h2=>by
  by_cases hp:p (bt s i)=true
  ·rw[YD Zo hp] at h2;by_cases e:j=i
   ·rw[e]; exact hp
   ·exact Ygi s p n (i+1) Zo j Zo h2
  ·rw[Yk (by rintro⟨_,q⟩; exact hp q)] at h2; omega
def Yan (s:ByteArray)(kind:Int)(i fin:Nat)(wrong:Int):TokR:=if chkB kind (s.extract i fin)=0 then near s kind i fin else .bad wrong i
theorem Yi1 {kind:Int}{t:ByteArray}(h:okB kind t=true):chkB kind t=0:=by unfold chkB; rw[if_pos h]
theorem Yi2 {kind:Int}{t:ByteArray}(h:okB kind t=false):¬chkB kind t=0:=by unfold chkB; rw[h]; decide
section
variable {s:ByteArray}{i:Nat}{R:TokR}
theorem Yfo (h:tokN s i=R)(h36:bt s i=36):Yan s 7 i (if cls (bt s (i+1)).toNat=2 then Yo s (inner Yj) (i+1) else i+1) 45=R:=by
 have:=Yf7 h h36;generalize(if cls (bt s (i+1)).toNat=2 then Yo s (inner Yj) (i+1) else i+1)=E at this⊢;rw[<-this];unfold Yan;cases hk:YbU (s.extract i E) with
 |true=>rw[if_pos (Yi1 (show okB 7 _=true from hk)),if_pos rfl]
 |false=>rw[if_neg (Yi2 (show okB 7 _=false from hk)),if_neg Zd]
theorem Ydm (h:tokN s i=R)(hq:¬(bt s i=39\/bt s i=34))(h4:¬cls (bt s i).toNat=4)(hv:¬(steB (bt s i)=true/\bt s (i+1)=46))(h2:¬cls (bt s i).toNat=2)
 (h3:cls (bt s i).toNat=3\/(bt s i=45/\cls (bt s (i+1)).toNat=3)):Yan s 4 i (digE s (i+1)) 43=R:=by
 have:=YhP h hq h4 hv h2 h3;rw[<-this];unfold Yan;cases hk:JY (s.extract i (digE s (i+1))) with
 |true=>rw[if_pos (Yi1 (show okB 4 _=true from hk)),if_pos rfl]
 |false=>rw[if_neg (Yi2 (show okB 4 _=false from hk)),if_neg Zd]
theorem Yfq (hi:i<s.size)(h:tokN s i=R)(hq:¬(bt s i=39\/bt s i=34))(hv:¬(steB (bt s i)=true/\bt s (i+1)=46))(h2:cls (bt s i).toNat=2):Yan s 3 i (Yo s (inner Yj) i) 43=R:=by
 have:=Yf9 h hq hv h2;rw[<-this];have hin:=Ygi s (inner Yj) _ i rfl;have hle:=YI s (inner Yj) i Zo;have hstep:Yo s (inner Yj) i=Yo s (inner Yj) (i+1):=by
  have hl:=Ygz (s:=s) (i:=i) (fun c=>!(cls c.toNat==2)||(!(c==39)&&!(c==34)&&inner Yj c&&inner JI c)) YjI;simp only[h2,beq_self_eq_true,Bool.not_true,Bool.false_or,Bool.and_eq_true,Bool.not_eq_true',beq_eq_false_iff_ne] at hl;exact YD hi hl.1.2
 have hle2:=YI s (inner Yj) (i+1) hi;generalize Yo s (inner Yj) i=E at*;have hz:=Ybn (i:=i) hle.2;have hb0:bt (s.extract i E) 0=bt s i:=by have:=YcW (i:=i) (j:=0) hle.2 Zo; rwa [Nat.add_zero] at this
 have hrun:Yo (s.extract i E) (inner Yj) 1=(s.extract i E).size:=(Y5 _ _ _ 1 rfl Zo).2 fun j h1 h2=>by
  rw[YcW hle.2 Zo]; exact hin (i+j) Zo Zo
 have hn:Jb (s.extract i E)=decide (E<=i+60):=by
  unfold Jb;rw[hb0,h2,hrun,hz,decide_eq_true (show E - i≠0 by omega),Bool.eq_iff_iff];simp; omega
 unfold Yan;by_cases hc:i+60<E
 ·rw[if_pos hc,if_neg (Yi2 (show okB 3 _=false from hn.trans (Zf)))]
 ·rw[if_neg hc,if_pos (Yi1 (show okB 3 _=true from hn.trans (Zt)))]
theorem Yfp (hi:i+1<s.size)(h:tokN s i=R)(hq:¬(bt s i=39\/bt s i=34))(h4:¬cls (bt s i).toNat=4)(hv:steB (bt s i)=true/\bt s (i+1)=46):Yan s 5 i (Yo s (inner JI) (i+2)) 43=R:=by
 have:=Yka h hq h4 hv;rw[<-this];have hin:=Ygi s (inner JI) _ (i+2) rfl;have hle:=YI s (inner JI) (i+2) Zo;generalize Yo s (inner JI) (i+2)=E at*;have hz:=Ybn (i:=i) hle.2;have hb0:bt (s.extract i E) 0=bt s i:=by have:=YcW (i:=i) (j:=0) hle.2 Zo; rwa [Nat.add_zero] at this
 have hb1:bt (s.extract i E) 1=bt s (i+1):=YcW (i:=i) (j:=1) hle.2 Zo;have hrun:Yo (s.extract i E) (inner JI) 2=(s.extract i E).size:=(Y5 _ _ _ 2 rfl Zo).2 fun j h1 h2=>by
  rw[YcW hle.2 Zo]; exact hin (i+j) Zo Zo
 have hn:Y2 (s.extract i E)=decide (i+3<=E/\E<=i+42):=by
  unfold Y2;rw[hb0,hb1,hv.1,hv.2,hrun,hz,Bool.eq_iff_iff];simp; omega
 unfold Yan;by_cases hc:E<i+3\/i+42<E
 ·rw[if_pos hc,if_neg (Yi2 (show okB 5 _=false from hn.trans (Zf)))]
 ·rw[if_neg hc,if_pos (Yi1 (show okB 5 _=true from hn.trans (Zt)))]
end
theorem YeG (s:ByteArray):∀(n i:Nat) (out out':List UInt8) (fin:Nat),quoN s 34 n i out= .ok out' fin->(∀b∈out,YaJ b.toNat=true)->∀b∈out',YaJ b.toNat=true
 |0,i,out,out',fin,h,_=>by simp[quoN] at h
 |
  n+1,i,out,out',fin,h,ho=>by
  unfold quoN at h;split at h
  ·cases h; exact ho
  ·split at h
   ·cases h
   ·rename_i hb
    split at h
    ·refine YeG s n _ _ _ _ h fun b hm=>?_;rcases List.mem_append.1 hm with q | q
     ·exact ho b q
     ·rw[List.mem_singleton.1 q,<-YhF];unfold YaJ;simp only[Bool.and_eq_true,decide_eq_true_eq]; omega
    ·split at h
     ·rename_i m he
      refine YeG s n _ _ _ _ h fun b hm=>?_;rcases List.mem_append.1 hm with q | q
      ·exact ho b q
      ·rw[List.mem_singleton.1 q];unfold escF at he;rw[if_pos rfl] at he;split at he
       ·cases he; decide
       ·split at he
        ·cases he; decide
        ·cases he
     ·rw[if_pos (.inl rfl)] at h; cases h
theorem Yjs {s:ByteArray}{n i fin:Nat}{out:List UInt8}(h:quoN s 34 n i []= .ok out fin):Ja ⟨out.toArray⟩=decide (¬(out.length<1\/60<out.length)):=by
 have hw:=YeG s _ _ _ _ _ h (fun b hm=>by cases hm);have hz:(⟨out.toArray⟩:ByteArray).size=out.length:=List.size_toArray ..;have hrun:Yo ⟨out.toArray⟩ YaJ 0=(⟨out.toArray⟩:ByteArray).size:=(Y5 _ _ _ 0 rfl (Nat.zero_le _)).2 ((Ynf _ YaJ).1 hw);unfold Ja;rw[hrun,hz,Bool.eq_iff_iff];simp
theorem YeH (s:ByteArray):∀(n i:Nat) (out out':List UInt8) (fin:Nat),(∀x∈out,32<=x.toNat/\x.toNat<=126)->quoN s 34 n i out= .ok out' fin->∀x∈out',32<=x.toNat/\x.toNat<=126
 |0,i,out,out',fin,ho,h=>by cases h
 |
  n+1,i,out,out',fin,ho,h=>by
  by_cases hm:bt s i=34
  ·have:=Yh3 h hm;cases this;exact ho
  ·by_cases hb:s.size<=i\/bt s i<32\/126<bt s i
   ·have:=YcT h hm hb;cases this
   ·by_cases h92:bt s i=92
    ·cases he:escF 34 (bt s (i+1)) with
     |
      some m=>
      have h':=YdG h hm hb h92 he;refine YeH s n _ _ _ _ (fun x hx=>?_) h';rcases List.mem_append.1 hx with q | q
      ·exact ho x q
      ·rw[List.mem_singleton] at q;subst q;unfold escF at he;rw[if_pos rfl] at he;split at he
       ·cases he; decide
       ·split at he
        ·cases he; decide
        ·cases he
     |
      none=>
      have:=JX h hm hb h92 he (.inl rfl);cases this
    ·have h':=YeI h hm hb h92;refine YeH s n _ _ _ _ (fun x hx=>?_) h';rcases List.mem_append.1 hx with q | q
     ·exact ho x q
     ·rw[List.mem_singleton] at q;subst q;have:=YhF s i;omega
theorem Yed {s:ByteArray}{kind wrong:Int}{i fin:Nat}{k:Int}{t:ByteArray}{f:Nat}(h:Yan s kind i fin wrong= .ok k t f):okB k t=true:=by
 unfold Yan at h;split at h
 ·rename_i hc
  unfold near at h;split at h
  ·cases h
  ·cases h;unfold chkB at hc;by_cases hk:okB kind (s.extract i fin)=true
   ·exact hk
   ·rw[if_neg hk] at hc; cases hc
 ·cases h
theorem Ynn {out:List UInt8}(h1:¬(out.length<1\/60<out.length))(h2:∀x∈out,32<=x.toNat/\x.toNat<=126):Ja ⟨out.toArray⟩=true:=by
 have hz:(⟨out.toArray⟩:ByteArray).size=out.length:=List.size_toArray ..;have hr:Yo (⟨out.toArray⟩:ByteArray) YaJ 0=(⟨out.toArray⟩:ByteArray).size:=(Y5 _ _ _ 0 rfl (Nat.zero_le _)).2 fun j _ hj=>by
  have h3:=h2 ((⟨out.toArray⟩:ByteArray)[j]) (by
   have:(⟨out.toArray⟩:ByteArray)[j]∈(⟨out.toArray⟩:ByteArray).data:=Array.getElem_mem (xs:=(⟨out.toArray⟩:ByteArray).data) hj;simpa using this)
  rw[<-Yq hj];unfold YaJ;simp only[Bool.and_eq_true,decide_eq_true_eq];omega
 unfold Ja;simp only[Bool.and_eq_true,decide_eq_true_eq];exact⟨⟨by omega,by omega⟩,hr⟩
theorem Ykc {s:ByteArray}{i:Nat}{kind:Int}{text:ByteArray}{fin:Nat}(hi:i<s.size)(h:tokN s i= .ok kind text fin):okB kind text=true:=by
 by_cases hq:bt s i=39\/bt s i=34
 ·have h':=Yej h hq;rcases hq with hq | hq
  ·rw[hq] at h';unfold quoR at h';split at h'
   ·cases h'
   ·rw[if_pos rfl] at h';cases h';rfl
  ·rw[hq] at h';cases hQ:quoN s 34 (s.size - i) (i+1) [] with
   |bad=>rw[hQ] at h'; cases h'
   |
    ok out f=>
    rw[hQ] at h';unfold quoR at h';dsimp only at h';rw[if_neg Zd] at h';split at h'
    ·cases h'
    ·rename_i hl
     cases h';exact Ynn hl (YeH s _ _ _ _ _ Zs hQ)
 ·by_cases h4:cls (bt s i).toNat=4
  ·have:=Yf8 h hq h4;cases this;have hb:bt (s.extract i (i+1)) 0=bt s i:=by have:=YcW (s:=s) (i:=i) (e:=i+1) (j:=0) Zo Zo; rwa [Nat.add_zero] at this
   show(decide ((s.extract i (i+1)).size=1)&&(cls (bt (s.extract i (i+1)) 0).toNat==4))=true;rw[hb,h4,Ybn Zo];simp
  ·by_cases hv:steB (bt s i)=true/\bt s (i+1)=46
   ·have hi1:i+1<s.size:=Nat.lt_of_not_le fun q=>by have:=hv.2; rw[JU q] at this; cases this
    exact Yed (Yfp hi1 h hq h4 hv)
   ·by_cases h2:cls (bt s i).toNat=2
    ·exact Yed (Yfq hi h hq hv h2)
    ·by_cases h3:cls (bt s i).toNat=3\/(bt s i=45/\cls (bt s (i+1)).toNat=3)
     ·exact Yed (Ydm h hq h4 hv h2 h3)
     ·by_cases h36:bt s i=36
      ·exact Yed (Yfo h h36)
      ·have:=YcZ h hq h4 hv h2 h3 h36;cases this
theorem Yfn (s:ByteArray):∀(n i:Nat) (sp:List (Nat×Nat)) (acc l:List Tk) (sp':List (Nat×Nat)),i<=s.size->(∀x∈acc,okB x.kind x.text=true)->Yau s n i sp acc= .ok l sp'->∀x∈l,okB x.kind x.text=true
 |0,i,sp,acc,l,sp',hi,ha,h=>by simp only[Yau,YdZ.ok.injEq] at h; rw[<-h.1]; exact ha
 |
  n+1,i,sp,acc,l,sp',hi,ha,h=>by
  unfold Yau at h;split at h
  ·cases h
  ·rename_i j sp1 hs
   have hj:=YcO s _ _ _ _ _ hi hs;split at h
   ·cases h; exact ha
   ·split at h
    ·cases h
    ·rename_i kind text fin ht
     have hf:=Yiy Zo ht;refine Yfn s n _ _ _ _ _ hf.2 (fun x hx=>?_) h;rcases List.mem_append.1 hx with q | q
     ·exact ha x q
     ·rw[List.mem_singleton] at q;subst q;exact Ykc Zo ht
theorem Yco {s:ByteArray}{l:List Tk}{sp:List (Nat×Nat)}(h:Yax s= .ok l sp):∀x∈l,okB x.kind x.text=true:=by
 unfold Yax at h;split at h
 ·cases h
 ·exact Yfn s _ _ _ _ _ _ (Nat.zero_le _) Zs h
def YS (k:Int)(t:ByteArray)(n:Nat):Bool:=
 if k=4 then decide (t.size=0)
 else if k=8 then YC 40 t
 else if n≠0 then false
 else if k=1 then decide (t.size=1)
 else if k=2 then Ja t
 else if k=3 then JY t
 else if k=5\/k=6\/k=7 then J6 t
 else false
def Ts.right (most:Int):Ts->Bool
 |.nil=>true
 |.cons k t kids rest=>decide (k<=most)&&YS k t kids.len&&kids.right most&&rest.right most
def YT (most:Int)(l:Ts):Int:=if 4000<l.nodes then 5 else if 100<l.deep then 6 else if l.right most=true then 0 else 2
def orC (a b:Int):Int:=if a=0 then b else a
def Ybc:List (Ts×Ts)->Int
 |[]=>0
 |x::l=>orC (orC (YT 8 x.1) (YT 7 x.2)) (Ybc l)
def Ss.form:Nat->Ss->Int
 |_,.nil=>0
 |
  blocks,.cons left tests right subject block rest=>
  orC (orC (YT 7 left) (orC (Ybc tests) (if block.len=0 then orC (if subject.len=0 then 0 else 2) (YT 8 right)
   else orC (if right.len=0 then 0 else 2) (orC (if blocks<6 then 0 else 6) (orC (YT 8 subject) (Ss.form (blocks+1) block)))))) (Ss.form blocks rest)
def YaH (s:ByteArray):Int:=if YC 40 s=true then 0 else 2
def Yai:List ByteArray->Int
 |[]=>0
 |s::l=>orC (YaH s) (Yai l)
def Yam:List Fn->Int
 |[]=>0
 |f::l=>orC (orC (YaH f.name) (if f.sents.len=0 then 2 else 0)) (orC (f.sents.form 0) (Yam l))
def Ybm (m:Md):Int:=orC (Yai m.externs) (Yam m.funcs)
theorem YL {a b:Int}:orC a b=0↔a=0/\b=0:=by
 unfold orC; split
 ·rename_i h; simp[h]
 ·rename_i h; simp[h]
theorem Ycv {most:Int}{l:Ts}:YT most l=0↔l.nodes<=4000/\l.deep<=100/\l.right most=true:=by
 unfold YT;split
 ·simp; omega
 ·split
  ·simp; omega
  ·split
   ·rename_i h; simp[h]; omega
   ·rename_i h; simp[h]
theorem Ts.right_app (most:Int):∀a b:Ts,(a.app b).right most=(a.right most&&b.right most)
 |.nil,b=>rfl
 |.cons k t kids rest,b=>by simp only[Ts.app,Ts.right,Ts.right_app most rest b,Bool.and_assoc]
theorem Ye4 (s:ByteArray)(most:Int)(h:1<=most):∀(n i:Nat),i+n<=s.size->(YA s n i).right most=true
 |0,i,hi=>rfl
 |
  n+1,i,hi=>by
  have h1:(s.extract i (i+1)).size=1:=by rw[Ybn Zo]; omega
  show(decide ((1:Int)<=most)&&YS 1 (s.extract i (i+1)) 0&&true&&(YA s n (i+1)).right most)=true;rw[Ye4 s most h n (i+1) Zo];simp[YS,h1,h]
theorem YfU (s:ByteArray):∀(n i:Nat),(YA s n i).deep=0
 |0,i=>rfl
 |
  n+1,i=>by
  show max (if (1:Int)=4\/(1:Int)=8\/(Ts.nil.len≠0) then _ else 0) (YA s n (i+1)).deep=0;rw[YfU s n (i+1)];simp[Ts.len]
theorem Yk7 {s:ByteArray}(h:Jb s=true):Ja s=true:=by
 unfold Jb at h;simp only[Bool.and_eq_true,decide_eq_true_eq,beq_iff_eq] at h;obtain⟨⟨⟨h0,h1⟩,h2⟩,h3⟩:=h;have hall:=(Y5 s (inner Yj) _ 1 rfl Zo).1 h3;unfold Ja;simp only[Bool.and_eq_true,decide_eq_true_eq];refine⟨⟨h0,h1⟩,(Y5 s YaJ _ 0 rfl (Nat.zero_le _)).2 fun j _ hj=>?_⟩;have hb:bt s j=(bu s j).toNat:=YhF s j;have hlt:=(bu s j).toNat_lt;have hfin:∀c:Fin 256,(cls (c.val:Int).toNat==2)=true\/inner Yj (c.val:Int)=true->YaJ (c.val:Int)=true:=by decide+kernel
 have:=hfin ⟨(bu s j).toNat,hlt⟩;dsimp only at this;rw[<-hb] at this;by_cases h00:j=0
 ·subst h00; exact this (.inl (by simpa using h2))
 ·exact this (.inr (hall j Zo hj))
theorem YnG {s:ByteArray}(h:Jb s=true)(h40:s.size<=40):YC 40 s=true:=by
 unfold Jb at h;unfold YC;simp only[Bool.and_eq_true,decide_eq_true_eq,beq_iff_eq] at h⊢;exact⟨⟨⟨h.1.1.1,by omega⟩,h.1.2⟩,h.2⟩
theorem Yj2 {s:ByteArray}(h:Y2 s=true):J6 (s.extract 2 s.size)=true:=by
 unfold Y2 at h;simp only[Bool.and_eq_true,decide_eq_true_eq,beq_iff_eq] at h;obtain⟨⟨⟨⟨h0,h1⟩,_⟩,_⟩,h3⟩:=h;have hall:=(Y5 s (inner JI) _ 2 rfl Zo).1 h3;have hz:(s.extract 2 s.size).size=s.size - 2:=Ybn (Nat.le_refl _);unfold J6;simp only[Bool.and_eq_true,decide_eq_true_eq];refine⟨⟨by omega,by omega⟩,(Y5 _ (inner JI) _ 0 rfl (Nat.zero_le _)).2 fun j _ hj=>?_⟩;rw[YcW (Nat.le_refl _) Zo];exact hall _ Zo Zo
theorem Yfl (c:Int):J0 c=5\/J0 c=6\/J0 c=7:=by
 unfold J0; split
 ·simp
 ·split<;>simp
theorem Yi9 {s:ByteArray}(h:Y2 s=true)(most:Int)(hm:7<=most):(varT s .nil).right most=true/\(varT s .nil).deep=0:=by
 unfold varT;rw[if_pos h];have h1:=Yj2 h;have h2:=Yfl (bt s 0);generalize J0 (bt s 0)=k at h2;have h4:¬k=4:=Zo;have h8:¬k=8:=Zo;constructor
 ·have:YS k (s.extract 2 s.size) 0=true:=by
   unfold YS;rw[if_neg h4,if_neg h8,if_neg Zd,if_neg Zo,if_neg Zo,if_neg Zo,if_pos h2,h1]
  show(decide (k<=most)&&YS k (s.extract 2 s.size) 0&&true&&true)=true;rw[this,Zt]; rfl
 ·show max (if k=4\/k=8\/(Ts.nil.len≠0) then _ else 0) 0=0;rw[if_neg (by simp[h4,h8,Ts.len])]; rfl
section
open Go.RowKit Go.Lib
def Yhn (x:Nat):Bool:=decide (x<32)||decide (126<x)
theorem get_bt (s:ByteArray){i:Nat}(h:i<s.size):((s.get! i).toNat:Int)=bt s i:=by
 rw[<-Yq h];have e:s.get! i=s[i]:=getElem!_pos s.data i h;rw[e]
theorem Yig (s:ByteArray){i:Nat}(h:i<s.size)(hw:YaJ (bt s i)=true):Yhn (Utf8.decode s i).1=false/\(Utf8.decode s i).2=1:=by
 have hb:=get_bt s h;unfold YaJ at hw;simp only[Bool.and_eq_true,decide_eq_true_eq] at hw;rw[decode_at];unfold decodeN;rw[if_pos Zo];refine⟨?_,rfl⟩;unfold Yhn;simp only[Bool.or_eq_false_iff,decide_eq_false_iff_not];omega
theorem YjH (s:ByteArray){i:Nat}(h:i<s.size)(hw:YaJ (bt s i)=false):Yhn (Utf8.decode s i).1=true:=by
 have hb:=get_bt s h;have hbl:=YB s i;unfold YaJ at hw;simp only[Bool.and_eq_false_iff,decide_eq_false_iff_not] at hw;rw[decode_at];generalize(s.get! (i+1)).toNat=b1;generalize(s.get! (i+2)).toNat=b2;generalize(s.get! (i+3)).toNat=b3;unfold Yhn;simp only[Bool.or_eq_true,decide_eq_true_eq];by_cases h8:(s.get! i).toNat<128
 ·unfold decodeN;rw[if_pos h8];dsimp only;omega
 ·right;unfold decodeN;rw[if_neg h8];repeat' split
  all_goals (dsimp only; omega)
theorem YiT (s:ByteArray):∀(n i:Nat),s.size - i<=n->i<=s.size->decide (0<=idxFuncFrom Yhn true s n i)=!decide (Yo s YaJ i=s.size)
 |
  0,i,hn,hi=>by
  rw[Yk Zo,decide_eq_true (show i=s.size by omega)];rfl
 |
  n+1,i,hn,hi=>by
  unfold idxFuncFrom;by_cases h:i<s.size
  ·rw[if_pos h];cases hw:YaJ (bt s i) with
   |
    true=>
    obtain⟨e1,e2⟩:=Yig s h hw;rw[e1,e2,if_neg Zd,YD h hw];exact YiT s n (i+1) Zo Zo
   |
    false=>
    rw[YjH s h hw,if_pos rfl,Yev (Nat.le_refl _) h hw,Zt];rfl
  ·rw[if_neg h,Yk (by intro q; exact h q.1),decide_eq_true (show i=s.size by omega)];rfl
theorem YnA (x:Nat)(hx:x<=1114111)(w:World):
 Calls Tryz.prog 225 #[.int .i32 (x:Int)] w fun e w'=>e= .returned (.bool (Yhn x))/\w'=w:=by
 have h1:decide (((x:Nat):Int)<32)=decide (x<32):=by rw[decide_eq_decide]; omega
 have h2:decide ((126:Int)<((x:Nat):Int))=decide (126<x):=by rw[decide_eq_decide]; omega
 unfold Yhn;go_enter Tryz.func225,Tryz.ntmps225;go_wp2;all_goals go_ret
 all_goals
  refine⟨?_,rfl⟩;first
   |(rw[h1,h2]; done)
   |(simp_all<;>omega)
theorem Yl4 (s:ByteArray)(w:World):
 Calls Tryz.prog 224 #[.string s,.func (.func 225) #[] #[]] w fun e w'=>e= .returned (.bool (!decide (Yo s YaJ 0=s.size)))/\Below w.heap.size w w':=by
 have h:=Tryz.strings_ContainsFunc_grows 225 #[] (by intro args w; simp[go_sem]) Yhn s w (fun W x hx hb=>(YnA x hx W).mono fun e w' ⟨h1,h2⟩=>⟨h1,by rw[h2]; exact Below.refl _ _⟩);unfold Lib.idxFunc at h;rw[YiT s s.size 0 Zo (Nat.zero_le _)] at h;exact h
end
section
open Go.RowKit Go.Lib
theorem empty_of {s:ByteArray}(h:s.size=0):s=ByteArray.empty:=by simpa using h
theorem YiH {k:Int}{t:ByteArray}{n:Nat}(h4:¬k=4)(h8:¬k=8)(hn:n=0):YS k t n=if k=1 then decide (t.size=1) else if k=2 then Ja t else if k=3 then JY t else if k=5\/k=6\/k=7 then J6 t else false:=by
 unfold YS;rw[if_neg h4,if_neg h8,if_neg (by simpa using hn)]
theorem Yhc (k:Int)(t:ByteArray)(ao:Option Addr)(n cap:Nat)(w:World)(ht:t.size<=1000000):
 Calls Tryz.prog 188 #[.agg #[.int .i64 k,.string t,.slice ao n cap]] w fun e w'=>e= .returned (.bool (YS k t n))/\Below w.heap.size w w':=by
 have hb0:=below_alloc1 w (.cells #[.int .i64 k,.string t,.slice ao n cap] 223);by_cases h4:k=4
 ·subst h4;have HR:Hid (YS 4 t n=decide (t.size=0)):=Zh rfl;generalize YS 4 t n=R at HR⊢;by_cases h0:t.size=0
  ·obtain rfl:=empty_of h0;go_enter Tryz.func188,Tryz.ntmps188;go_wp2;go_ret;exact⟨by rw[HR.out]; rfl,hb0⟩
  ·have hl:¬t.toList=[]:=Jp h0;have hl2:t.toList.isEmpty=false:=by simpa using hl
   have HR2:Hid (R=false):=Zh (by rw[HR.out,decide_eq_false h0]);clear h0;go_enter Tryz.func188,Tryz.ntmps188;go_wp2;go_ret;exact⟨by rw[HR2.out]; rfl,hb0⟩
 ·have b4:(k==4)=false:=by simpa using h4
  by_cases h8:k=8
  ·subst h8;have hI:=YeU t 40 (w.alloc (.cells #[.int .i64 8,.string t,.slice ao n cap] 223)) Zo Zo;have HR:Hid (YS 8 t n=YC 40 t):=Zh rfl;generalize YS 8 t n=R at HR⊢;clear h4;go_enter Tryz.func188,Tryz.ntmps188;go_wp2_with fail;refine hI.mono ?_;rintro e w1 ⟨rfl,rfl⟩;clear hI;go_wp2;go_ret;exact⟨by rw[HR.out]; rfl,hb0⟩
  ·have b8:(k==8)=false:=by simpa using h8
   by_cases hn:n=0
   ·subst hn;have HRR:=Zh (YiH (t:=t) (n:=0) h4 h8 rfl);generalize YS k t 0=R at HRR⊢;by_cases h1:k=1
    ·subst h1;have HR2:Hid (R=decide (t.size=1)):=Zh (by rw[HRR.out]; rfl);have hd:decide ((t.size:Int)=1)=decide (t.size=1):=by rw[decide_eq_decide]; omega
     have hd2:((t.size:Int)==1)=decide (t.size=1):=by rw[Bool.eq_iff_iff,beq_iff_eq,decide_eq_true_eq]; omega
     clear h4 h8 HRR;go_enter Tryz.func188,Tryz.ntmps188;go_wp2;go_ret;exact⟨by rw[HR2.out]; rfl,hb0⟩
    ·have b1:(k==1)=false:=by simpa using h1
     by_cases h2:k=2
     ·subst h2;have HR2:Hid (R=Ja t):=Zh (by rw[HRR.out]; rfl);clear h4 h8 h1 HRR;by_cases h0:t.size=0
      ·obtain rfl:=empty_of h0;go_enter Tryz.func188,Tryz.ntmps188;go_wp2;go_ret;exact⟨by rw[HR2.out]; rfl,hb0⟩
      ·have hl:¬t.toList=[]:=Jp h0;have hl2:t.toList.isEmpty=false:=by simpa using hl
       by_cases hz:t.size<=60
       ·have g1:decide ((t.size:Int)<=60)=true:=Zt;have HR3:Hid (R=decide (Yo t YaJ 0=t.size)):=Zh (by rw[HR2.out]; unfold Ja; rw[decide_eq_true h0,decide_eq_true hz]; rfl);have hW:=Yl4 t (w.alloc (.cells #[.int .i64 2,.string t,.slice ao 0 cap] 223));generalize decide (Yo t YaJ 0=t.size)=B at HR3 hW;clear h0;go_enter Tryz.func188,Tryz.ntmps188;go_wp2_with fail;refine hW.mono ?_;rintro e w1 ⟨rfl,hb1⟩;clear hW;go_wp2;go_ret;exact⟨by rw[HR3.out]; simp,hb0.trans (hb1.mono hb0.size)⟩
       ·have g1:decide ((t.size:Int)<=60)=false:=Zf;have HR3:Hid (R=false):=Zh (by rw[HR2.out]; unfold Ja; rw[decide_eq_false hz]; simp);clear h0;go_enter Tryz.func188,Tryz.ntmps188;go_wp2;all_goals first
         |(go_ret; exact⟨by rw[HR3.out]; simp,hb0⟩)
         |(exfalso; simp_all<;>omega)
     ·have b2:(k==2)=false:=by simpa using h2
      by_cases h3:k=3
      ·subst h3;have HR2:Hid (R=JY t):=Zh (by rw[HRR.out]; rfl);have hI:=Ylo t (w.alloc (.cells #[.int .i64 3,.string t,.slice ao 0 cap] 223)) ht;generalize JY t=B at HR2 hI;clear h4 h8 h1 h2 HRR;go_enter Tryz.func188,Tryz.ntmps188;go_wp2_with fail;refine hI.mono ?_;rintro e w1 ⟨rfl,rfl⟩;clear hI;go_wp2;go_ret;exact⟨by rw[HR2.out]; rfl,hb0⟩
      ·have b3:(k==3)=false:=by simpa using h3
       by_cases hv:k=5\/k=6\/k=7
       ·have HR2:Hid (R=J6 t):=Zh (by rw[HRR.out,if_neg h1,if_neg h2,if_neg h3,if_pos hv]);clear h4 h8 h1 h2 h3 HRR;by_cases h0:t.size=0
        ·obtain rfl:=empty_of h0;rcases hv with rfl | rfl | rfl;all_goals
          go_enter Tryz.func188,Tryz.ntmps188;go_wp2;go_ret;exact⟨by rw[HR2.out]; rfl,hb0⟩
        ·have hl:¬t.toList=[]:=Jp h0;have hl2:t.toList.isEmpty=false:=by simpa using hl
         by_cases hz:t.size<=40
         ·have g1:decide ((t.size:Int)<=40)=true:=Zt;have HR3:Hid (R=decide (Yo t (tis 3) 0=t.size)):=Zh (by rw[HR2.out]; unfold J6; rw[decide_eq_true h0,decide_eq_true hz,Yew t (fun j=>(Ycj _ (YB t j) (Jk t j)).2.1) 0 (Nat.zero_le _)]; rfl);have hW:=fun w=>Ye0 t 3 Zo w ht;generalize decide (Yo t (tis 3) 0=t.size)=B at HR3 hW;clear h0;rcases hv with rfl | rfl | rfl;all_goals
           go_enter Tryz.func188,Tryz.ntmps188;go_wp2_with fail;refine(hW _).mono ?_;rintro e w1 ⟨rfl,rfl⟩;clear hW;go_wp2;go_ret;exact⟨by rw[HR3.out]; simp,hb0⟩
         ·have g1:decide ((t.size:Int)<=40)=false:=Zf;have HR3:Hid (R=false):=Zh (by rw[HR2.out]; unfold J6; rw[decide_eq_false hz]; simp);clear h0;rcases hv with rfl | rfl | rfl;all_goals
           go_enter Tryz.func188,Tryz.ntmps188;go_wp2;all_goals first
            |(go_ret; exact⟨by rw[HR3.out]; simp,hb0⟩)
            |(exfalso; simp_all<;>omega)
       ·have HR2:Hid (R=false):=Zh (by rw[HRR.out,if_neg h1,if_neg h2,if_neg h3,if_neg hv]);have b5:(k==5)=false:=by simpa using fun q=>hv (.inl q)
        have b6:(k==6)=false:=by simpa using fun q=>hv (.inr (.inl q))
        have b7:(k==7)=false:=by simpa using fun q=>hv (.inr (.inr q))
        clear h4 h8 h1 h2 h3 hv HRR;go_enter Tryz.func188,Tryz.ntmps188;go_wp2;go_ret;exact⟨by rw[HR2.out]; rfl,hb0⟩
   ·have l0:decide ((0:Int)<(n:Int))=true:=Zt;have l1:decide (0<n)=true:=Zt;have HR:Hid (YS k t n=false):=Zh (by unfold YS; rw[if_neg h4,if_neg h8,if_pos hn]);generalize YS k t n=R at HR⊢;clear h4 h8 hn;go_enter Tryz.func188,Tryz.ntmps188;go_wp2;go_ret;exact⟨by rw[HR.out]; rfl,hb0⟩
end
section
open Go.RowKit Go.Lib
def ste8:ByteArray:=⟨#[115,116,101]⟩
theorem YiX (s:ByteArray){i:Nat}(h:i<s.size):s.extract i (i+1)=⟨#[s[i]'h]⟩:=by
 have hz:(s.extract i (i+1)).size=1:=by rw[ByteArray.size_extract]; omega
 apply ByteArray.ext;apply Array.ext
 ·show(s.extract i (i+1)).size=1;exact hz
 ·intro j h1 h2;have hj:j=0:=by have:j<1:=h2; omega
  subst hj;show(s.extract i (i+1))[0]'(by rw[hz]; omega)=s[i];rw[ByteArray.getElem_extract];rfl
theorem Ykm (c:UInt8):decide (0<=Lib.indexByte ste8.data.toList c)=steB (c.toNat:Int)/\(steB (c.toNat:Int)=true->5+Lib.indexByte ste8.data.toList c=J0 (c.toNat:Int)/\0<=Lib.indexByte ste8.data.toList c/\Lib.indexByte ste8.data.toList c<=2):=by
 have:∀i:Fin 256,decide (0<=Lib.indexByte ste8.data.toList (UInt8.ofNat i.val))=steB (i.val:Int)/\(steB (i.val:Int)=true->5+Lib.indexByte ste8.data.toList (UInt8.ofNat i.val)=J0 (i.val:Int)/\0<=Lib.indexByte ste8.data.toList (UInt8.ofNat i.val)/\Lib.indexByte ste8.data.toList (UInt8.ofNat i.val)<=2):=by decide+kernel
 have h:=this ⟨c.toNat,c.toNat_lt⟩;dsimp only at h;rw[UInt8.ofNat_toNat] at h;exact h
theorem YnT (s:ByteArray)(h:0<s.size)(w:World):
 Calls Tryz.prog 31 #[.string ste8,.string (s.extract 0 1)] w fun e w'=>e= .returned (.bool (steB (bt s 0)))/\w'=w:=by
 have h1:=Tryz.strings_Contains_one ste8 (s[0]'h) w;rw[(Ykm _).1,Yq h,<-YiX s h] at h1;exact h1
theorem YoA (s:ByteArray)(h:0<s.size)(hs:steB (bt s 0)=true)(w:World):
 ∃x:Int,5+x=J0 (bt s 0)/\0<=x/\x<=2/\∀w,Calls Tryz.prog 76 #[.string ste8,.string (s.extract 0 1)] w fun e w'=>e= .returned (.int .i64 x)/\w'=w:=by
 have h2:=(Ykm (s[0]'h)).2;rw[Yq h] at h2;obtain⟨e1,e2,e3⟩:=h2 hs;refine⟨_,e1,e2,e3,fun w=>?_⟩;have h1:=Tryz.strings_Index_one ste8 (s[0]'h) w;rw[<-YiX s h] at h1;exact h1
theorem Yj3 (s:ByteArray)(h2:2<=s.size)(h46:bt s 1=46)(hs:steB (bt s 0)=true):Y2 s=YS (J0 (bt s 0)) (s.extract 2 s.size) 0:=by
 have hk:=Yfl (bt s 0);rw[YiH Zo Zo rfl,if_neg Zo,if_neg Zo,if_neg Zo,if_pos hk];unfold Y2 J6;rw[Ykz s _ 2 h2,ext_size,hs,show(bt s 1==46)=true by simpa using h46];simp only[Bool.and_true];congr 1
 rw[Bool.eq_iff_iff];simp only[Bool.and_eq_true,decide_eq_true_eq];omega
theorem Yiu {W:World}{g:Nat}{x0 y0 z0:Value}{t:TypeId}(x y z:Value)(h:W.heap[g]? =some (.cells #[x0,y0,z0] t (0,0))):
 (((W.setCell ⟨g,0,none⟩ x).setCell ⟨g,1,none⟩ y).setCell ⟨g,2,none⟩ z).heap[g]? =some (.cells #[x,y,z] t (0,0))/\Keep (fun k=>k=g) W (((W.setCell ⟨g,0,none⟩ x).setCell ⟨g,1,none⟩ y).setCell ⟨g,2,none⟩ z):=by
 have K1:=Keep.of_setCell W ⟨g,0,none⟩ x;have K2:=Keep.of_setCell (W.setCell ⟨g,0,none⟩ x) ⟨g,1,none⟩ y;have K3:=Keep.of_setCell ((W.setCell ⟨g,0,none⟩ x).setCell ⟨g,1,none⟩ y) ⟨g,2,none⟩ z;have n1:=heap_setCell_same W g 0 _ _ x h;have n2:=heap_setCell_same (W.setCell ⟨g,0,none⟩ x) g 1 _ _ y n1;have n3:=heap_setCell_same ((W.setCell ⟨g,0,none⟩ x).setCell ⟨g,1,none⟩ y) g 2 _ _ z n2;exact⟨by simpa using n3,(K1.trans K2 (fun _ _ q=>q)).trans K3 (fun _ _ q=>q)⟩
theorem YaO {tmps:Array Value}{g:Nat}{V:World}{x y z u:Value}(t2:tmps[2]? =some (.pointer (some ⟨g,0,none⟩)))(t3:tmps[3]? =some u)
 (h:V.heap[g]? =some (.cells #[x,y,z] 223 (0,0))):(results Tryz.f190 tmps).run Tryz.prog V= .ok (.tuple #[.agg #[x,y,z],u]) V:=by
 have c0:V.cell? ⟨g,0,none⟩=some x:=by simp[World.cell?,h]
 have c1:V.cell? ⟨g,1,none⟩=some y:=by simp[World.cell?,h]
 have c2:V.cell? ⟨g,2,none⟩=some z:=by simp[World.cell?,h]
 simp[results,Tryz.f190,go_sem,t2,t3,c0,c1,c2]
theorem Yj4:JO:=by
 intro s w hs;have hb0:=below_alloc1 w (.cells #[.int .i64 0,.string ⟨#[]⟩,.slice none 0 0] 223);by_cases h2:2<=s.size
 ·have l0:decide ((s.size:Int)<2)=false:=Zf;have l1:decide (1<s.size)=true:=Zt;have hB:=Yq (s:=s) (i:=1) Zo;have HB:=Zh hB;by_cases h46:bt s 1=46
  ·have hx:(((s[1]'Zo).toNat:Int) != 46)=false:=by rw[hB]; simpa using h46
   have hC:=fun w=>YnT s Zo w;cases hst:steB (bt s 0) with
   |
    true=>
    have hP:=Yj3 s h2 h46 hst;obtain⟨x,hx1,hx2,hx3,hI⟩:=YoA s Zo hst w;rw[hst] at hC;have hV:Hid (varV s=if Y2 s=true then .agg #[.int .i64 (J0 (bt s 0)),.string (s.extract 2 s.size),.slice none 0 0] else .agg #[.int .i64 0,.string ⟨#[]⟩,.slice none 0 0]):=Zh rfl;rw[<-hx1] at hP hV;rw[hP] at hV⊢;have HR:=fun w=>Yhc (5+x) (s.extract 2 s.size) none 0 0 w (by rw[ext_size]; omega);generalize YS (5+x) (s.extract 2 s.size) 0=R at HR hV⊢;clear hP hB h46 hst hx1;go_enter Tryz.func190,Tryz.ntmps190;go_wp2_with fail;refine(hC _).mono ?_;rintro e w1 ⟨rfl,rfl⟩;clear hC;go_wp2_with fail;have p1:(1:Int)<=(s.size:Int):=Zo;have p2:(2:Int)<=(s.size:Int):=Zo;have wx:IntKind.i64.wrap (5+x)=5+x:=IntWalk.i64_in _ Zo;go_region_law (go_simp; go_at_call 76; refine(hI _).mono ?_; rintro e w1 ⟨rfl,rfl⟩)
    all_goals
     go_wp2_with fail;have n0:((w.alloc (.cells #[.int .i64 0,.string ⟨#[]⟩,.slice none 0 0] 223)).alloc (.cells #[.int .i64 (5+x),.string (s.extract 2 s.size),.slice none 0 0] 223)).drew.heap[w.heap.size]? =some (.cells #[.int .i64 0,.string ⟨#[]⟩,.slice none 0 0] 223 (0,0)):=
      (below_alloc1 _ _).block w.heap.size Zs |>.trans (heap_alloc_new _ _)
     have n1:((w.alloc (.cells #[.int .i64 0,.string ⟨#[]⟩,.slice none 0 0] 223)).alloc (.cells #[.int .i64 (5+x),.string (s.extract 2 s.size),.slice none 0 0] 223)).drew.heap[w.heap.size+1]? =some (.cells #[.int .i64 (5+x),.string (s.extract 2 s.size),.slice none 0 0] 223 (0,0)):=by
      have:=heap_alloc_new (w.alloc (.cells #[.int .i64 0,.string ⟨#[]⟩,.slice none 0 0] 223)) (.cells #[.int .i64 (5+x),.string (s.extract 2 s.size),.slice none 0 0] 223);have ez:(w.alloc (.cells #[.int .i64 0,.string ⟨#[]⟩,.slice none 0 0] 223)).heap.size=w.heap.size+1:=Zs;rw[ez] at this;exact this
     have hb1:Below w.heap.size w ((w.alloc (.cells #[.int .i64 0,.string ⟨#[]⟩,.slice none 0 0] 223)).alloc (.cells #[.int .i64 (5+x),.string (s.extract 2 s.size),.slice none 0 0] 223)).drew:=below_drewN (hb0.trans ((below_alloc1 _ _).mono hb0.size)) 1;refine(HR _).mono ?_;rintro e w2 ⟨rfl,hb2⟩;have m0:=(hb2.block _ (Zg n0).1).trans n0;have m1:=(hb2.block _ (Zg n1).1).trans n1;have hbb:=hb1.trans (hb2.mono hb1.size);clear n0 n1 hb1 hb2 HR hb0;have c0:w2.cell? ⟨w.heap.size,0,none⟩=some (.int .i64 0):=by simp[World.cell?,m0]
     have c1:w2.cell? ⟨w.heap.size,1,none⟩=some (.string ⟨#[]⟩):=by simp[World.cell?,m0]
     have c2:w2.cell? ⟨w.heap.size,2,none⟩=some (.slice none 0 0):=by simp[World.cell?,m0]
     have f0:w2.frozen? ⟨w.heap.size,0,none⟩=false:=by simp[World.frozen?,m0]
     have f1:w2.frozen? ⟨w.heap.size,1,none⟩=false:=by simp[World.frozen?,m0]
     have f2:w2.frozen? ⟨w.heap.size,2,none⟩=false:=by simp[World.frozen?,m0]
     have d0:w2.cell? ⟨w.heap.size+1,0,none⟩=some (.int .i64 (5+x)):=by simp[World.cell?,m1]
     have d1:w2.cell? ⟨w.heap.size+1,1,none⟩=some (.string (s.extract 2 s.size)):=by simp[World.cell?,m1]
     have d2:w2.cell? ⟨w.heap.size+1,2,none⟩=some (.slice none 0 0):=by simp[World.cell?,m1]
     have HM:=Zh (And.intro m0 hbb);clear m0 m1 hbb;cases R with
     |
      true=>
      go_wp2;obtain⟨m0,hbb⟩:=HM.out;obtain⟨q0,qk⟩:=Yiu (.int .i64 (5+x)) (.string (s.extract 2 s.size)) (.slice none 0 0) m0;refine bodyPost_ret (YaO rfl rfl q0) rfl ⟨by rw[hV.out]; rfl,hbb.trans (qk.below hbb.size (fun i hi q=>by omega))⟩
     |
      false=>
      go_wp2;obtain⟨m0,hbb⟩:=HM.out;obtain⟨q0,qk⟩:=Yiu (.int .i64 0) (.string ⟨#[]⟩) (.slice none 0 0) m0;refine bodyPost_ret (YaO rfl rfl q0) rfl ⟨by rw[hV.out]; rfl,hbb.trans (qk.below hbb.size (fun i hi q=>by omega))⟩
   |
    false=>
    have HX:Hid (Y2 s=false):=Zh (by unfold Y2; rw[hst]; simp);have hV:Hid (varV s= .agg #[.int .i64 0,.string ⟨#[]⟩,.slice none 0 0]):=Zh (by unfold varV; rw[HX.out]; rfl);rw[hst] at hC;have p1:(1:Int)<=(s.size:Int):=Zo;generalize Y2 s=R at HX⊢;clear hB h46 hst;go_enter Tryz.func190,Tryz.ntmps190;go_wp2_with fail;refine(hC _).mono ?_;rintro e w1 ⟨rfl,rfl⟩;clear hC;go_wp2_with fail;refine bodyPost_ret (YaO rfl rfl (heap_alloc_new w _)) rfl ⟨by rw[hV.out,HX.out]; rfl,hb0⟩
  ·have hx:(((s[1]'Zo).toNat:Int) != 46)=true:=by rw[hB]; simpa using h46
   have HX:Hid (Y2 s=false):=Zh (by unfold Y2; rw[show(bt s 1==46)=false by simpa using h46]; simp);have hV:Hid (varV s= .agg #[.int .i64 0,.string ⟨#[]⟩,.slice none 0 0]):=Zh (by unfold varV; rw[HX.out]; rfl);generalize Y2 s=R at HX⊢;clear hB h46;go_enter Tryz.func190,Tryz.ntmps190;go_wp2;refine bodyPost_ret (YaO rfl rfl (heap_alloc_new w _)) rfl ⟨by rw[hV.out,HX.out]; rfl,hb0⟩
 ·have l0:decide ((s.size:Int)<2)=true:=Zt;have HX:Hid (Y2 s=false):=Zh (by unfold Y2; rw[decide_eq_false (show ¬3<=s.size by omega)]; simp);have hV:Hid (varV s= .agg #[.int .i64 0,.string ⟨#[]⟩,.slice none 0 0]):=Zh (by unfold varV; rw[HX.out]; rfl);generalize Y2 s=R at HX⊢;go_enter Tryz.func190,Tryz.ntmps190;go_wp2;refine bodyPost_ret (YaO rfl rfl (heap_alloc_new w _)) rfl ⟨by rw[hV.out,HX.out]; rfl,hb0⟩
end
theorem Ykh {x y z:Value}:(Tryz.prog.info? 136).map (·.size)=some (#[x,y,z]:Array Value).size:=by
 show _=some 3;kernel_rfl
theorem Yki (w:World)(g:Nat)(a c b a' c' b':Value)(h:w.heap[g]? =some (.cells #[a,b,c] 136 (0,0))):
 (((w.setCell ⟨g,0,none⟩ a').setCell ⟨g,1,none⟩ b').setCell ⟨g,2,none⟩ c').heap[g]? =some (.cells #[a',b',c'] 136 (0,0)):=by
 have h1:=heap_setCell_same w g 0 _ _ a' h;have h2:=heap_setCell_same _ g 1 _ _ b' h1;have h3:=heap_setCell_same _ g 2 _ _ c' h2;rw[h3]; simp
theorem YgV (w:World)(g:Nat)(a b c:Value):
 Keep (fun k=>k=g) w (((w.setCell ⟨g,0,none⟩ a).setCell ⟨g,1,none⟩ b).setCell ⟨g,2,none⟩ c).drew:=
 (((Keep.of_setCell w ⟨g,0,none⟩ a).trans (Keep.of_setCell _ ⟨g,1,none⟩ b) (fun _ _ e=>e)).trans (Keep.of_setCell _ ⟨g,2,none⟩ c) (fun _ _ e=>e)).trans (Keep.of_drewN (S:=fun _=>False) _ 1) (fun _ _ q=>False.elim q)
theorem take_any (B b p q:Nat)(s:ByteArray)(at_ fr fin:Nat)(kind:Int)(sp:List (Nat×Nat))(v:Value)(w:World)(_hs:s.size<=40000)(hw:Yp B b s at_ sp v w)
 (hp:w.heap[p]? =some (.cells #[.pointer (some ⟨b,0,none⟩)] 123 (0,0)))(hq:w.heap[q]? =some (.cells #[.int .i64 fr] 3 (0,0)))(h1:fr<=fin)(h2:fin<=s.size)(h3:at_<=fin):
 Calls Tryz.prog 209 #[.int .i64 kind,.int .i64 fin,.pointer (some ⟨p,0,none⟩),.pointer (some ⟨q,0,none⟩)] w fun e w'=>
  e= .returned (.agg #[.int .i64 kind,.string (s.extract fr fin),.int .i64 fr])/\Yp B b s fin sp v w'/\Keep (fun k=>k=b) w w':=by
 clear _hs;have hc0:=hw.row.c0;have hc1:=hw.row.c1;have hf1:=hw.row.frozen 1;have hbs:=hw.row.lt;have hpl:p<w.heap.size:=by obtain⟨h,_⟩:=Zg hp; exact h
 have hql:q<w.heap.size:=by obtain⟨h,_⟩:=Zg hq; exact h
 have hpb:p≠b:=by
  rintro rfl;obtain⟨d,hd,hn,_⟩:=hw.row;rw[hp] at hd; cases hd
 have hqb:q≠b:=by
  rintro rfl;obtain⟨d,hd,hn,_⟩:=hw.row;rw[hq] at hd; cases hd
 have cp:w.cell? ⟨p,0,none⟩=some (.pointer (some ⟨b,0,none⟩)):=by simp[World.cell?,hp]
 have cq:w.cell? ⟨q,0,none⟩=some (.int .i64 fr):=by simp[World.cell?,hq]
 have i1:(0:Int)<=fr:=Zo;have i2:(fr:Int)<=fin:=Zo;have i3:(fin:Int)<=s.size:=Zo;clear hp hq;go_enter Tryz.func209,Tryz.ntmps209;go_wp2_with (fail);have hA2:=hw.set1 fin h2 h3;have hK2:Keep (fun k=>k=b) w (w.setCell ⟨b,1,none⟩ (.int .i64 fin)):=Keep.of_setCell w ⟨b,1,none⟩ _;have hsz:(w.setCell ⟨b,1,none⟩ (.int .i64 fin)).heap.size=w.heap.size:=Zs;have hp2:(w.setCell ⟨b,1,none⟩ (.int .i64 fin)).cell? ⟨p,0,none⟩=_:=(hK2.cell (p:=⟨p,0,none⟩) hpl hpb).trans cp;have hq2:(w.setCell ⟨b,1,none⟩ (.int .i64 fin)).cell? ⟨q,0,none⟩=_:=(hK2.cell (p:=⟨q,0,none⟩) hql hqb).trans cq;generalize w.setCell ⟨b,1,none⟩ (.int .i64 fin)=W at hA2 hK2 hsz hp2 hq2⊢;have hA3:Yp B b s fin sp v (W.alloc (.cells #[.int .i64 0,.string ⟨#[]⟩,.int .i64 0] 136)):=
  ⟨World.rowIs.alloc hA2.row _,(Keep.of_alloc (S:=fun _=>False) W _).owns hA2.own (fun _ _ q=>q),hA2.le,hA2.few⟩
 have hT:=heap_alloc_new W (.cells #[.int .i64 0,.string ⟨#[]⟩,.int .i64 0] 136);have hp3:=(World.cell?_alloc_lt W (.cells #[.int .i64 0,.string ⟨#[]⟩,.int .i64 0] 136) ⟨p,0,none⟩ (by show p<_; omega)).trans hp2;have hq3:=(World.cell?_alloc_lt W (.cells #[.int .i64 0,.string ⟨#[]⟩,.int .i64 0] 136) ⟨q,0,none⟩ (by show q<_; omega)).trans hq2;have hK3:Keep (fun k=>k=b) w (W.alloc (.cells #[.int .i64 0,.string ⟨#[]⟩,.int .i64 0] 136)):=hK2.trans (Keep.of_alloc (S:=fun _=>False) W _) (fun _ _ q=>False.elim q);rw[hsz] at hT;generalize W.alloc (.cells #[.int .i64 0,.string ⟨#[]⟩,.int .i64 0] 136)=W5 at hA3 hT hp3 hq3 hK3⊢;have t0:W5.cell? ⟨w.heap.size,0,none⟩=some (.int .i64 0):=by simp[World.cell?,hT]
 have t1:W5.cell? ⟨w.heap.size,1,none⟩=some (.string ⟨#[]⟩):=by simp[World.cell?,hT]
 have t2:W5.cell? ⟨w.heap.size,2,none⟩=some (.int .i64 0):=by simp[World.cell?,hT]
 have tf:∀j,W5.frozen? ⟨w.heap.size,j,none⟩=false:=fun j=>by simp[World.frozen?,hT]
 have f0:=tf 0;have f1:=tf 1;have f2:=tf 2;have hc0:=hA3.row.c0;have HT:=Zh hT;clear hT tf hsz hc1 hf1 cp cq hp2 hq2;go_region
 all_goals go_wp2
 have HT:=HT.out;have E:=Yki W5 w.heap.size (.int .i64 0) (.int .i64 0) (.string ⟨#[]⟩) (.int .i64 kind) (.int .i64 fr) (.string (s.extract fr fin)) HT;have hvl:∀k,v.ownBlock=some k->k<w.heap.size:=fun k e=>by
  obtain⟨c,hc⟩:=Yt hw.own e;obtain⟨h,_⟩:=Zg hc;exact h
 have hK:∀u:World,Keep (fun k=>k=w.heap.size) W5 u->Yp B b s fin sp v u/\Keep (fun k=>k=b) w u:=fun u hu=>
  ⟨⟨hu.row hA3.row Zo,hu.owns hA3.own (fun k e q=>by have:=hvl k e; omega),hA3.le,hA3.few⟩,hK3.trans hu (fun i hi e=>by omega)⟩
 refine bodyPost_ret (v:=.agg #[.int .i64 kind,.string (s.extract fr fin),.int .i64 fr]) ?_ rfl ?_
 ·exact results_cell_row rfl _ _ w.heap.size 136 _ (0,0) _ rfl E Tryz.underlying136 rfl Ykh
 ·exact⟨rfl,hK _ (YgV W5 _ _ _ _)⟩
theorem Rd.bind_ok {α β:Type}{r:Rd α}{f:α->Nat->Rd β}{y:β}{k:Nat}(h:r.bind f= .ok y k):∃x i,r= .ok x i/\f x i= .ok y k:=by
 cases r with
 |ok x i=>exact⟨x,i,rfl,h⟩
 |bad a c=>cases h
theorem YmJ {L:List Tk}{en i:Nat}{s:ByteArray}{k:Nat}(h:Yz L en i= .ok s k):∃t,L[i]? =some t/\t.kind=3/\t.text.size<=40/\s=t.text/\k=i+1:=by
 unfold Yz YQ at h;split at h
 ·cases h
 ·rename_i t ht
  split at h
  ·rename_i hk; cases h; exact⟨t,ht,hk.1,hk.2,rfl,rfl⟩
  ·cases h
def YeO (pat:Bool):Int:=if pat=true then 7 else 8
theorem Yla (pat:Bool):7<=YeO pat:=by cases pat<;>decide
theorem YaX {most k:Int}{t:ByteArray}{kids:Ts}(hk:k<=most)(hr:YS k t kids.len=true)(hkids:kids.right most=true):(Ts.cons k t kids .nil).right most=true:=by
 show(decide (k<=most)&&YS k t kids.len&&kids.right most&&true)=true;rw[decide_eq_true hk,hr,hkids]; rfl
theorem Ybr {most:Int}{a b:Ts}(ha:a.right most=true)(hb:b.right most=true):(a.app b).right most=true:=by rw[Ts.right_app,ha,hb]; rfl
theorem YdI {L:List Tk}(hL:∀x∈L,okB x.kind x.text=true){en i:Nat}{s:ByteArray}{k:Nat}(h:Yz L en i= .ok s k):YC 40 s=true:=by
 obtain⟨t,ht,hk,hz,rfl,_⟩:=YmJ h;have h1:=hL t (List.mem_of_getElem? ht);rw[hk] at h1;exact YnG h1 hz
theorem Jy {L:List Tk}(hL:∀x∈L,okB x.kind x.text=true)(en:Nat)(pat:Bool):∀(n deep i:Nat) (acc ts:Ts) (j:Nat),deep<=100->acc.right (YeO pat)=true->acc.deep<=100 - deep->
 Yb L en pat n deep i acc= .ok ts j->ts.right (YeO pat)=true/\ts.deep<=100 - deep
 |0,deep,i,acc,ts,j,hd,hr,hq,h=>by cases h; exact⟨hr,hq⟩
 |
  n+1,deep,i,acc,ts,j,hd,hr,hq,h=>by
  have hM:=Yla pat;unfold Yb at h;split at h
  ·cases h; exact⟨hr,hq⟩
  ·rename_i t ht
   have hok:=hL t (List.mem_of_getElem? ht);split at h
   ·refine Jy hL en pat n _ _ _ _ _ hd (Ybr hr (Ye4 _ _ Zo _ _ Zo)) ?_ h;rw[Ts.deep_app,YfU]; omega
   ·split at h
    ·rename_i h1 h2
     have hw:YS 2 t.text 0=true:=by
      unfold YS;rw[if_neg Zd,if_neg Zd,if_neg Zd,if_neg Zd,if_pos rfl];rcases h2 with h2 | h2
      ·rw[h2] at hok; exact hok
      ·rw[h2] at hok; exact Yk7 hok
     refine Jy hL en pat n _ _ _ _ _ hd (Ybr hr (YaX Zo hw rfl)) ?_ h;rw[Ts.deep_app]; show max acc.deep (max (if (2:Int)=4\/(2:Int)=8\/(Ts.nil.len≠0) then _ else 0) 0)<=_;rw[if_neg (by simp[Ts.len])]; omega
    ·split at h
     ·rename_i h1 h2 h3
      have hw:YS 3 t.text 0=true:=by
       unfold YS;rw[if_neg Zd,if_neg Zd,if_neg Zd,if_neg Zd,if_neg Zd,if_pos rfl];rw[h3] at hok; exact hok
      refine Jy hL en pat n _ _ _ _ _ hd (Ybr hr (YaX Zo hw rfl)) ?_ h;rw[Ts.deep_app]; show max acc.deep (max (if (3:Int)=4\/(3:Int)=8\/(Ts.nil.len≠0) then _ else 0) 0)<=_;rw[if_neg (by simp[Ts.len])]; omega
     ·split at h
      ·rename_i h1 h2 h3 h5
       have hv:Y2 t.text=true:=by rw[h5] at hok; exact hok
       obtain⟨v1,v2⟩:=Yi9 hv (YeO pat) hM;refine Jy hL en pat n _ _ _ _ _ hd (Ybr hr v1) ?_ h;rw[Ts.deep_app,v2]; omega
      ·split at h
       ·split at h
        ·cases h
        ·obtain⟨kids,j1,hkids,h⟩:=Rd.bind_ok h;obtain⟨_,k,hm,h⟩:=Rd.bind_ok h;obtain⟨r1,r2⟩:=Jy hL en pat n _ _ _ _ _ Zo rfl (by simp[Ts.deep]) hkids;refine Jy hL en pat n _ _ _ _ _ hd (Ybr hr (YaX Zo Zr r1)) ?_ h;rw[Ts.deep_app]; show max acc.deep (max (if (4:Int)=4\/(4:Int)=8\/(kids.len≠0) then kids.deep+1 else 0) 0)<=_;rw[if_pos (.inl rfl)]; omega
       ·split at h
        ·split at h
         ·cases h
         ·split at h
          ·cases h
          ·rename_i hp _
           obtain⟨nm,m,hnm,h⟩:=Rd.bind_ok h;obtain⟨kids,j1,hkids,h⟩:=Rd.bind_ok h;obtain⟨_,k,hm,h⟩:=Rd.bind_ok h;obtain⟨r1,r2⟩:=Jy hL en pat n _ _ _ _ _ Zo rfl (by simp[Ts.deep]) hkids;have hp8:YeO pat=8:=by unfold YeO; rw[if_neg hp]
           have hw:YS 8 nm kids.len=true:=by
            unfold YS;rw[if_neg Zd,if_pos rfl];exact YdI hL hnm
           refine Jy hL en pat n _ _ _ _ _ hd (Ybr hr (YaX Zo hw r1)) ?_ h;rw[Ts.deep_app]; show max acc.deep (max (if (8:Int)=4\/(8:Int)=8\/(kids.len≠0) then kids.deep+1 else 0) 0)<=_;rw[if_pos (.inr (.inl rfl))]; omega
        ·cases h; exact⟨hr,hq⟩
theorem Ycg {L:List Tk}(hL:∀x∈L,okB x.kind x.text=true){en:Nat}{pat:Bool}{i:Nat}{ts:Ts}{j:Nat}(h:YK L en pat i= .ok ts j):YT (YeO pat) ts=0:=by
 unfold YK at h;obtain⟨l,k,hl,h⟩:=Rd.bind_ok h;unfold YQ at h;split at h
 ·cases h
 ·cases h;have:=Jy hL en pat _ _ _ _ _ _ Zo rfl (by simp[Ts.deep]) hl;exact Ycv.2 ⟨by omega,by omega,this.1⟩
theorem Yem:∀(l:List (Ts×Ts)) (x:Ts×Ts),Ybc l=0->YT 8 x.1=0->YT 7 x.2=0->Ybc (l++[x])=0
 |[],x,_,h1,h2=>by show orC (orC _ _) 0=0; rw[h1,h2]; rfl
 |
  y::l,x,h,h1,h2=>by
  obtain⟨a,b⟩:=YL.1 (show orC (orC (YT 8 y.1) (YT 7 y.2)) (Ybc l)=0 from h);exact YL.2 ⟨a,Yem l x b h1 h2⟩
theorem Ss.form_app (blocks:Nat):∀a b:Ss,a.form blocks=0->b.form blocks=0->(a.app b).form blocks=0
 |.nil,b,_,hb=>hb
 |
  .cons l t r s k rest,b,ha,hb=>by
  unfold Ss.form at ha;obtain⟨h1,h2⟩:=YL.1 ha;show orC _ _=0;exact YL.2 ⟨h1,Ss.form_app blocks rest b h2 hb⟩
mutual
theorem Yes {L:List Tk}(hL:∀x∈L,okB x.kind x.text=true)(en:Nat):∀(n blocks i:Nat) (left:Ts) (tests:List (Ts×Ts)) (s:Ss) (j:Nat),YT 7 left=0->Ybc tests=0->JV L en n blocks i left tests= .ok s j->s.form blocks=0/\s.len=1
 |0,_,_,_,_,_,_,_,_,h=>by unfold JV at h; cases h
 |
  n+1,blocks,i,left,tests,s,j,hl,ht,h=>by
  unfold JV at h;split at h
  ·obtain⟨e,j1,he,h⟩:=Rd.bind_ok h;obtain⟨_,k,hm,h⟩:=Rd.bind_ok h;have he8:=Ycg hL he;split at h
   ·split at h
    ·cases h
    ·rename_i hb
     obtain⟨b,m,hbl,h⟩:=Rd.bind_ok h;cases h;obtain⟨f1,f2⟩:=Yfy hL en n (blocks+1) _ _ _ hbl;refine⟨?_,rfl⟩;unfold Ss.form;have he8':YT 8 e=0:=he8;rw[hl,ht,if_neg f2,if_pos (show Ts.nil.len=0 from rfl),if_pos Zo,he8',f1];rfl
   ·obtain⟨p,m,hp,h⟩:=Rd.bind_ok h;exact Yes hL en n blocks _ _ _ _ _ hl (Yem _ (e,p) ht (show YT 8 e=0 from he8) (show YT 7 p=0 from Ycg hL hp)) h
  ·obtain⟨_,k,hm,h⟩:=Rd.bind_ok h;obtain⟨r,q,hr,h⟩:=Rd.bind_ok h;cases h;have hr8:YT 8 r=0:=Ycg hL hr;refine⟨?_,rfl⟩;unfold Ss.form;rw[hl,ht,if_pos (show Ss.nil.len=0 from rfl),if_pos (show Ts.nil.len=0 from rfl),hr8];rfl
theorem Yfy {L:List Tk}(hL:∀x∈L,okB x.kind x.text=true)(en:Nat):∀(n blocks i:Nat) (s:Ss) (j:Nat),YZ L en n blocks i= .ok s j->s.form blocks=0/\s.len≠0
 |0,_,_,_,_,h=>by unfold YZ at h; cases h
 |
  n+1,blocks,i,s,j,h=>by
  unfold YZ at h;split at h
  ·cases h
  ·exact Yhs hL en n blocks _ _ _ _ rfl h
theorem Yhs {L:List Tk}(hL:∀x∈L,okB x.kind x.text=true)(en:Nat):∀(n blocks i:Nat) (acc s:Ss) (j:Nat),acc.form blocks=0->YaF L en n blocks i acc= .ok s j->s.form blocks=0/\s.len≠0
 |0,_,_,_,_,_,_,h=>by unfold YaF at h; cases h
 |
  n+1,blocks,i,acc,s,j,ha,h=>by
  unfold YaF at h;obtain⟨left,j1,hl,h⟩:=Rd.bind_ok h;obtain⟨x,k,hx,h⟩:=Rd.bind_ok h;obtain⟨f1,f2⟩:=Yes hL en n blocks _ _ _ _ _ (Ycg hL hl) rfl hx;have hA:=Ss.form_app blocks _ _ ha f1;split at h
  ·split at h
   ·cases h; exact⟨hA,by rw[Ss.len_app]; omega⟩
   ·exact Yhs hL en n blocks _ _ _ _ hA h
  ·split at h
   ·cases h; exact⟨hA,by rw[Ss.len_app]; omega⟩
   ·cases h
end
theorem Ydg:∀(l:List ByteArray) (s:ByteArray),Yai l=0->YC 40 s=true->Yai (l++[s])=0
 |[],s,_,h=>by show orC (YaH s) 0=0; unfold YaH; rw[if_pos h]; rfl
 |
  x::l,s,h,hs=>by
  obtain⟨a,b⟩:=YL.1 (show orC (YaH x) (Yai l)=0 from h);exact YL.2 ⟨a,Ydg l s b hs⟩
theorem YeW:∀(l:List Fn) (f:Fn),Yam l=0->YC 40 f.name=true->f.sents.len≠0->f.sents.form 0=0->Yam (l++[f])=0
 |[],f,_,h1,h2,h3=>by show orC (orC (YaH f.name) _) (orC _ 0)=0; unfold YaH; rw[if_pos h1,if_neg h2,h3]; rfl
 |
  x::l,f,h,h1,h2,h3=>by
  obtain⟨a,b⟩:=YL.1 (show orC (orC (YaH x.name) _) (orC (x.sents.form 0) (Yam l))=0 from h);obtain⟨c,d⟩:=YL.1 b;exact YL.2 ⟨a,YL.2 ⟨c,YeW l f d h1 h2 h3⟩⟩
theorem YiY {L:List Tk}(hL:∀x∈L,okB x.kind x.text=true)(en:Nat):∀(n i:Nat) (acc l:List ByteArray) (j:Nat),Yai acc=0->extN L en n i acc= .ok l j->Yai l=0
 |0,_,_,_,_,_,h=>by cases h
 |
  n+1,i,acc,l,j,ha,h=>by
  unfold extN at h;obtain⟨s,k,hs,h⟩:=Rd.bind_ok h;have hA:=Ydg acc s ha (YdI hL hs);split at h
  ·exact YiY hL en n _ _ _ _ hA h
  ·cases h; exact hA
theorem YbK {m:Md}:Ybm m=0↔Yai m.externs=0/\Yam m.funcs=0:=YL
theorem Ylm {L:List Tk}(hL:∀x∈L,okB x.kind x.text=true){en i:Nat}{m m':Md}{j:Nat}(hm:Ybm m=0)(h:YaA L en i m= .ok m' j):Ybm m'=0:=by
 obtain⟨h1,h2⟩:=YbK.1 hm;unfold YaA at h;split at h
 ·obtain⟨l,k,hl,h⟩:=Rd.bind_ok h;obtain⟨_,q,_,h⟩:=Rd.bind_ok h;cases h;exact YbK.2 ⟨YiY hL en _ _ _ _ _ h1 hl,h2⟩
 ·obtain⟨nm,k,hn,h⟩:=Rd.bind_ok h;obtain⟨_,q,_,h⟩:=Rd.bind_ok h;obtain⟨b,r,hb,h⟩:=Rd.bind_ok h;cases h;obtain⟨f1,f2⟩:=Yfy hL en _ _ _ _ _ hb;exact YbK.2 ⟨h1,YeW _ _ h2 (YdI hL hn) f2 f1⟩
theorem YfM {L:List Tk}(hL:∀x∈L,okB x.kind x.text=true)(en:Nat):∀(n i:Nat) (m m':Md) (j:Nat),Ybm m=0->Jm L en n i m= .ok m' j->Ybm m'=0
 |0,_,_,_,_,_,h=>by cases h
 |
  n+1,i,m,m',j,hm,h=>by
  unfold Jm at h;split at h
  ·obtain⟨m1,k,h1,h⟩:=Rd.bind_ok h;exact YfM hL en n _ _ _ _ (Ylm hL hm h1) h
  ·cases h; exact hm
theorem Yhg {s:ByteArray}{m:Md}{j:Nat}(h:readB s= .ok m j):Ybm m=0:=by
 unfold readB at h;split at h
 ·cases h
 ·rename_i l sp hs
  exact YfM (Yco hs) _ _ _ _ _ _ rfl h
end Go.Proofs.YteamjdmhdfjopaaGreatDoor
