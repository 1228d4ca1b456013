/- A part of the proof; it holds the texts Px Sp Trp Snp (names and blanks shortened). -/
import Derived.Lib.Bytealg
import Derived.Lib.Index
import Derived.Lib.Strings
import Derived.Lib.SlTrimSet
import Derived.Lib.Hide
namespace Go.Proofs.YteamjdmhdfjopaaGreatDoor
open Go.RowKit
set_option maxRecDepth 100000
set_option maxHeartbeats 8000000
set_option linter.unusedVariables false
set_option linter.unusedSimpArgs false
theorem Zo {p:Prop}(h:p:=by omega):p:=h
theorem Zd {p:Prop}(h:p:=by decide):p:=h
theorem Zs {p:Prop}(h:p:=by simp):p:=h
theorem Zr {p:Prop}(h:p:=by rfl):p:=h
theorem Zt {p:Prop}[Decidable p](h:p:=by omega):decide p=true:=decide_eq_true h
theorem Zf {p:Prop}[Decidable p](h:¬p:=by omega):decide p=false:=decide_eq_false h
theorem Zh {p:Prop}(h:p):Hid p:=Lib.hid h
theorem Zg {α:Type}{l:Array α}{i:Nat}{a:α}(h:l[i]? =some a):∃h:i<l.size,l[i]=a:=Array.getElem?_eq_some_iff.mp h
def cls (c:Nat):Int:=
 if c=32\/c=9\/c=10\/c=13 then 1
 else if 97<=c/\c<=122\/65<=c/\c<=90 then 2
 else if 48<=c/\c<=57 then 3
 else if c=40\/c=41\/c=60\/c=62\/c=123\/c=125\/c=61\/c=44\/c=58\/c=59 then 4 else 0
def bt (s:ByteArray)(i:Nat):Int:=if h:i<s.size then (s[i].toNat:Int) else 0
theorem Je {s:ByteArray}{i:Nat}(h:i<s.size):((s[i]'h).toNat:Int)=bt s i:=by unfold bt; rw[dif_pos h]
theorem Jp {s:ByteArray}{i:Nat}(h:s.size<=i):bt s i=0:=by unfold bt; rw[dif_neg Zo]
theorem Yan (s:ByteArray)(i:Nat):0<=bt s i:=by unfold bt; split<;>omega
theorem YaU (s:ByteArray)(i:Nat):bt s i<=255:=by
 unfold bt;split
 ·have:=(s[i]).toNat_lt; omega
 ·omega
def hexv (c:Int):Option Int:=
 if 48<=c/\c<=57 then some (c - 48) else if 97<=c/\c<=102 then some (c - 87) else if 65<=c/\c<=70 then some (c - 55) else none
def runN (s:ByteArray)(p:Int->Bool):Nat->Nat->Nat
 |0,i=>i
 |n+1,i=>if i<s.size/\p (bt s i)=true then runN s p n (i+1) else i
def Yf (s:ByteArray)(p:Int->Bool)(i:Nat):Nat:=runN s p (s.size - i) i
theorem YE {s:ByteArray}{p:Int->Bool}{i:Nat}(h:i<s.size)(hp:p (bt s i)=true):Yf s p i=Yf s p (i+1):=by
 unfold Yf;rw[show s.size - i=(s.size - (i+1))+1 by omega,runN,if_pos ⟨h,hp⟩]
theorem YD {s:ByteArray}{p:Int->Bool}{i:Nat}(h:¬(i<s.size/\p (bt s i)=true)):Yf s p i=i:=by
 unfold Yf;cases s.size - i<;>simp[runN,h]
theorem YeU (s:ByteArray)(p:Int->Bool):∀n i,i+n<=s.size->i<=runN s p n i/\runN s p n i<=s.size
 |0,i,h=>⟨Nat.le_refl _,by simpa[runN] using h⟩
 |
  n+1,i,h=>by
  unfold runN;split
  ·have:=YeU s p n (i+1) Zo; exact⟨by omega,this.2⟩
  ·exact⟨Nat.le_refl _,by omega⟩
theorem YW (s:ByteArray)(p:Int->Bool)(i:Nat)(h:i<=s.size):i<=Yf s p i/\Yf s p i<=s.size:=YeU s p _ i Zo
def inner (more:ByteArray)(c:Int):Bool:=cls c.toNat==2||cls c.toNat==3||decide (0<=Lib.indexByte more.data.toList c.toNat.toUInt8)
def Yj:ByteArray:=⟨#[45,95]⟩
def Js:ByteArray:=⟨#[]⟩
def YL (s:ByteArray):Bool:=decide (s.size≠0)&&decide (s.size<=60)&&(cls (bt s 0).toNat==2)&&decide (Yf s (inner Yj) 1=s.size)
def steB (c:Int):Bool:=c==115||c==116||c==101
def YF (s:ByteArray):Bool:=decide (3<=s.size)&&decide (s.size<=42)&&steB (bt s 0)&&(bt s 1==46)&&decide (Yf s (inner Js) 2=s.size)
def YaR (s:ByteArray):Bool:=s.toList==[36,69,78,84,82,89]||s.toList==[36,69,88,84,69,82,78]
theorem drop_cons {s:ByteArray}{i:Nat}(h:i<s.size):s.data.toList.drop i=(s[i]'h)::s.data.toList.drop (i+1):=by
 rw[List.drop_eq_getElem_cons (by simpa using h)];rfl
theorem drop_end {s:ByteArray}{i:Nat}(h:s.size<=i):s.data.toList.drop i=[]:=List.drop_eq_nil_of_le (by simpa using h)
theorem Yl5 (c:UInt8)(n:Nat)(h:n<256):c=n.toUInt8↔(c.toNat:Int)=n:=by
 constructor
 ·rintro rfl; simp[Nat.mod_eq_of_lt h]
 ·intro e; apply UInt8.toNat_inj.1; simp[Nat.mod_eq_of_lt h]; omega
def Ye2 (c:Int):Bool:=!(c==10)
def YK (s:ByteArray)(at_:Nat):Nat:=Yf s Ye2 at_
theorem YdO (s:ByteArray):∀(n i:Nat),s.size - i=n->(Lib.indexByte (s.data.toList.drop i) 10<0->i<=s.size->YK s i=s.size)/\(0<=Lib.indexByte (s.data.toList.drop i) 10->(YK s i:Int)=i+Lib.indexByte (s.data.toList.drop i) 10)
 |
  0,i,h=>by
  rw[drop_end Zo];simp only[Lib.indexByte];refine⟨fun _ h2=>?_,fun h=>by omega⟩;unfold YK;rw[YD Zo]; omega
 |
  n+1,i,h=>by
  have hi:i<s.size:=Zo;have ih:=YdO s n (i+1) Zo;rw[drop_cons hi];simp only[Lib.indexByte];have hge:=Lib.indexByte_ge (s.data.toList.drop (i+1)) 10;by_cases hc:(s[i]'hi)=10
  ·have hb:bt s i=10:=by rw[<-Je hi,hc]; rfl
   simp only[hc,beq_self_eq_true,if_true];refine⟨fun h=>by omega,fun _=>?_⟩;unfold YK;rw[YD (by rintro⟨_,q⟩; rw[hb] at q; cases q)]; omega
  ·have hb:Ye2 (bt s i)=true:=by
    unfold Ye2;rw[<-Je hi];have:=mt (Yl5 (s[i]'hi) 10 Zo).2 (fun e=>hc e);simp at this⊢; omega
   have hs:YK s i=YK s (i+1):=YE hi hb;rw[if_neg (by simpa using hc),hs];by_cases hm:Lib.indexByte (s.data.toList.drop (i+1)) 10= -1
   ·rw[hm]; simp only[beq_self_eq_true,if_true];exact⟨fun _ _=>ih.1 Zo Zo,fun h=>by omega⟩
   ·rw[if_neg (by simpa using hm)];exact⟨fun h=>by omega,fun _=>by rw[ih.2 Zo]; omega⟩
def comN (s:ByteArray):Nat->Nat->Option Nat
 |0,_=>none
 |n+1,i=>if i+1<s.size then (if bt s i=42/\bt s (i+1)=47 then some (i+2) else comN s n (i+1)) else none
def Yce (s:ByteArray)(i:Nat):Option Nat:=comN s (s.size - i) i
theorem YiM (s:ByteArray):∀(n i:Nat),s.size - i=n->(Lib.index (s.data.toList.drop i) [42,47]<0->comN s n i=none)/\(0<=Lib.index (s.data.toList.drop i) [42,47]->comN s n i=some (i+(Lib.index (s.data.toList.drop i) [42,47]).toNat+2)/\i+(Lib.index (s.data.toList.drop i) [42,47]).toNat+2<=s.size)
 |
  0,i,h=>by
  rw[drop_end Zo];simp[Lib.index,comN]
 |
  n+1,i,h=>by
  have hi:i<s.size:=Zo;have ih:=YiM s n (i+1) Zo;have hge:=Lib.index_ge (s.data.toList.drop (i+1)) [42,47];rw[drop_cons hi];simp only[Lib.index];by_cases h1:i+1<s.size
  ·have hp:List.isPrefixOf [42,47] ((s[i]'hi)::s.data.toList.drop (i+1))=decide (bt s i=42/\bt s (i+1)=47):=by
    rw[drop_cons h1,<-Je hi,<-Je h1];have e1:=Yl5 (s[i]'hi) 42 Zo;have e2:=Yl5 (s[i+1]'h1) 47 Zo;rw[Bool.eq_iff_iff];simp only[List.isPrefixOf,Bool.and_true,Bool.and_eq_true,beq_iff_eq,decide_eq_true_eq];exact and_congr (eq_comm.trans e1) (eq_comm.trans e2)
   rw[hp];by_cases hb:bt s i=42/\bt s (i+1)=47
   ·rw[decide_eq_true hb];simp only[if_true,comN,if_pos h1,if_pos hb];exact⟨fun h=>by omega,fun _=>⟨by simp,by simp; omega⟩⟩
   ·rw[decide_eq_false hb];simp only[Bool.false_eq_true,if_false,comN,if_pos h1,if_neg hb];by_cases hm:Lib.index (s.data.toList.drop (i+1)) [42,47]= -1
    ·rw[hm]; simp only[beq_self_eq_true,if_true];exact⟨fun _=>ih.1 Zo,fun h=>by omega⟩
    ·rw[if_neg (by simpa using hm)];refine⟨fun h=>by omega,fun _=>?_⟩;obtain⟨a,b⟩:=ih.2 Zo;rw[a];exact⟨by congr 1; omega,by omega⟩
  ·rw[drop_end Zo];have hp:List.isPrefixOf [42,47] [s[i]'hi]=false:=by simp[List.isPrefixOf]
   rw[hp];simp[Lib.index,comN,h1]
inductive Yej where
 |err (at_:Nat)
 |ok (at_:Nat) (sp:List (Nat×Nat))
def Y7 (s:ByteArray)(i:Nat):Bool:=(bt s i==42)&&(decide (i=0)||(bt s (i - 1)==10))
def isOpen (s:ByteArray)(i:Nat):Bool:=(bt s i==47)&&(bt s (i+1)==42)
def YO (s:ByteArray):Nat->Nat->List (Nat×Nat)->Yej
 |0,i,sp=>.ok i sp
 |
  n+1,i,sp=>
  if i<s.size then
   if cls (bt s i).toNat=1 then YO s n (i+1) sp
   else if Y7 s i=true then YO s n (YK s i) (sp++[(i,YK s i)])
   else if isOpen s i=true then
    match Yce s (i+2) with
    |none=>.err i
    |some e=>YO s n e (sp++[(i,e)])
   else .ok i sp
  else .ok i sp
def bu (s:ByteArray)(i:Nat):UInt8:=if h:i<s.size then s[i] else 0
theorem YaE (s:ByteArray)(i:Nat):bt s i=(bu s i).toNat:=by
 unfold bt bu; split<;>rfl
def escF (mark c:Int):Option Int:=
 if mark=34 then (if c=92 then some 92 else if c=34 then some 34 else none)
 else (if c=92 then some 92 else if c=39 then some 39 else if c=110 then some 10 else if c=116 then some 9 else none)
def hex2 (h l:Int):UInt8:=(16*h+l).toNat.toUInt8
inductive QuoR where
 |bad
 |ok (out:List UInt8) (fin:Nat)
def quoN (s:ByteArray)(mark:Int):Nat->Nat->List UInt8->QuoR
 |0,_,_=>.bad
 |
  n+1,i,out=>
  if bt s i=mark then .ok out (i+1)
  else if s.size<=i\/bt s i<32\/126<bt s i then .bad
  else if bt s i≠92 then quoN s mark n (i+1) (out++[bu s i])
  else match escF mark (bt s (i+1)) with
   |some m=>quoN s mark n (i+2) (out++[m.toNat.toUInt8])
   |
    none=>
    if mark=34\/bt s (i+1)≠120 then .bad
    else match hexv (bt s (i+2)),hexv (bt s (i+3)) with
     |some h,some l=>quoN s mark n (i+4) (out++[hex2 h l])
     |_,_=>.bad
section
variable {s:ByteArray}{mark:Int}{n i:Nat}{out:List UInt8}{R:QuoR}
theorem YmL (h:quoN s mark (n+1) i out=R)(hm:bt s i=mark):R= .ok out (i+1):=by
 rw[quoN,if_pos hm] at h; exact h.symm
theorem Yg5 (h:quoN s mark (n+1) i out=R)(hm:¬bt s i=mark)(hb:s.size<=i\/bt s i<32\/126<bt s i):R= .bad:=by
 rw[quoN,if_neg hm,if_pos hb] at h; exact h.symm
theorem YeY (h:quoN s mark (n+1) i out=R)(hm:¬bt s i=mark)(hb:¬(s.size<=i\/bt s i<32\/126<bt s i))(h92:¬bt s i=92):quoN s mark n (i+1) (out++[bu s i])=R:=by
 rwa [quoN,if_neg hm,if_neg hb,if_pos h92] at h
theorem Yjf {m:Int}(h:quoN s mark (n+1) i out=R)(hm:¬bt s i=mark)(hb:¬(s.size<=i\/bt s i<32\/126<bt s i))(h92:bt s i=92)(he:escF mark (bt s (i+1))=some m):
 quoN s mark n (i+2) (out++[m.toNat.toUInt8])=R:=by
 rwa [quoN,if_neg hm,if_neg hb,if_neg (by simp[h92]),he] at h
theorem Yb3 (h:quoN s mark (n+1) i out=R)(hm:¬bt s i=mark)(hb:¬(s.size<=i\/bt s i<32\/126<bt s i))(h92:bt s i=92)(he:escF mark (bt s (i+1))=none)
 (hx:mark=34\/¬bt s (i+1)=120\/hexv (bt s (i+2))=none\/hexv (bt s (i+3))=none):R= .bad:=by
 rw[quoN,if_neg hm,if_neg hb,if_neg (by simp[h92]),he] at h;dsimp only at h;split at h
 ·exact h.symm
 ·rename_i hn
  rcases hx with hx | hx | hx | hx
  ·exact absurd (.inl hx) hn
  ·exact absurd (.inr hx) hn
  ·rw[hx] at h; exact h.symm
  ·rw[hx] at h;generalize hexv (bt s (i+2))=q at h;cases q<;>exact h.symm
theorem YmK {a b:Int}(h:quoN s mark (n+1) i out=R)(hm:¬bt s i=mark)(hb:¬(s.size<=i\/bt s i<32\/126<bt s i))(h92:bt s i=92)(he:escF mark (bt s (i+1))=none)
 (h34:¬mark=34)(h120:bt s (i+1)=120)(ha:hexv (bt s (i+2))=some a)(hb2:hexv (bt s (i+3))=some b):quoN s mark n (i+4) (out++[hex2 a b])=R:=by
 rw[quoN,if_neg hm,if_neg hb,if_neg (by simp[h92]),he] at h;dsimp only at h;rwa [if_neg (by simp[h34,h120]),ha,hb2] at h
end
theorem Ynz {c v:Int}(h:hexv c=some v):0<=v/\v<=15:=by
 unfold hexv at h;repeat' split at h
 all_goals first | (cases h; omega) | cases h
theorem Yqo {c v:Int}(h:hexv c=some v):¬c=0:=by
 unfold hexv at h;repeat' split at h
 all_goals first | omega | cases h
theorem Yqu {mark c m:Int}(h:escF mark c=some m):¬c=0/\0<=m/\m<=92:=by
 unfold escF at h;repeat' split at h
 all_goals first | (cases h; omega) | cases h
def YdV:ByteArray:=⟨#[48,49,50,51,52,53,54,55,56,57]⟩
def YfK:ByteArray:=⟨#[45]⟩
def numD (s:ByteArray):ByteArray:=⟨(Lib.trimPrefix s.data.toList YfK.data.toList).toArray⟩
def Yk0 (d:ByteArray):ByteArray:=⟨(Lib.trimS d.data.toList YdV.data.toList).toArray⟩
def Y8 (s:ByteArray):Bool:=
 !(numD s).toList.isEmpty&&decide ((numD s).size<=500)&&(Yk0 (numD s)).toList.isEmpty&&(bt (numD s) 0 != 48||s.toList==[48])
section
variable {s d:ByteArray}{R:Bool}
theorem YmW (h:Y8 s=R)(hd:numD s=d)(hx:d.toList=[]\/¬d.size<=500\/¬(Yk0 d).toList=[]):R=false:=by
 subst hd h;unfold Y8;rcases hx with hx | hx | hx<;>simp[hx]
theorem YmV (h:Y8 s=R)(hd:numD s=d)(h1:¬d.toList=[])(h2:d.size<=500)(h3:(Yk0 d).toList=[]):R=(bt d 0 != 48||s.toList==[48]):=by
 subst hd h;unfold Y8;simp[h1,h2,h3]
end
inductive TokR where
 |bad (code:Int) (at_:Nat)
 |ok (kind:Int) (text:ByteArray) (fin:Nat)
def digE (s:ByteArray)(i:Nat):Nat:=Yf s (fun c=>cls c.toNat==3) i
def Ycr (s:ByteArray)(fin:Nat):Bool:=
 decide (fin<s.size)&&(cls (bt s fin).toNat==2||cls (bt s fin).toNat==3||bt s fin==45||bt s fin==95||bt s fin==46)
def near (s:ByteArray)(kind:Int)(fr fin:Nat):TokR:=if Ycr s fin=true then .bad 44 fin else .ok kind (s.extract fr fin) fin
def quoR (mark:Int)(fr:Nat):QuoR->TokR
 |.bad=>.bad 41 fr
 |.ok out fin=>if mark=39 then .ok 1 ⟨out.toArray⟩ fin else if out.length<1\/60<out.length then .bad 43 fr else .ok 2 ⟨out.toArray⟩ fin
def tokN (s:ByteArray)(i:Nat):TokR:=
 if bt s i=39\/bt s i=34 then quoR (bt s i) i (quoN s (bt s i) (s.size - i) (i+1) [])
 else if cls (bt s i).toNat=4 then .ok 6 (s.extract i (i+1)) (i+1)
 else if steB (bt s i)=true/\bt s (i+1)=46 then
  if Yf s (inner Js) (i+2)<i+3\/i+42<Yf s (inner Js) (i+2) then .bad 43 i else near s 5 i (Yf s (inner Js) (i+2))
 else if cls (bt s i).toNat=2 then
  if i+60<Yf s (inner Yj) i then .bad 43 i else near s 3 i (Yf s (inner Yj) i)
 else if cls (bt s i).toNat=3\/(bt s i=45/\cls (bt s (i+1)).toNat=3) then
  if Y8 (s.extract i (digE s (i+1)))=true then near s 4 i (digE s (i+1)) else .bad 43 i
 else if bt s i=36 then
  if YaR (s.extract i (if cls (bt s (i+1)).toNat=2 then Yf s (inner Yj) (i+1) else i+1))=true then
   near s 7 i (if cls (bt s (i+1)).toNat=2 then Yf s (inner Yj) (i+1) else i+1)
  else .bad 45 i
 else .bad 40 i
section
variable {s:ByteArray}{i:Nat}{R:TokR}
theorem Yi4 (h:tokN s i=R)(hq:bt s i=39\/bt s i=34):quoR (bt s i) i (quoN s (bt s i) (s.size - i) (i+1) [])=R:=by
 rwa [tokN,if_pos hq] at h
theorem YgO (h:tokN s i=R)(hq:¬(bt s i=39\/bt s i=34))(h4:cls (bt s i).toNat=4):R= .ok 6 (s.extract i (i+1)) (i+1):=by
 rw[tokN,if_neg hq,if_pos h4] at h; exact h.symm
theorem Yi3 (h:tokN s i=R)(hq:¬(bt s i=39\/bt s i=34))(h4:¬cls (bt s i).toNat=4)(hv:steB (bt s i)=true/\bt s (i+1)=46):
 (if Yf s (inner Js) (i+2)<i+3\/i+42<Yf s (inner Js) (i+2) then .bad 43 i else near s 5 i (Yf s (inner Js) (i+2)))=R:=by
 rwa [tokN,if_neg hq,if_neg h4,if_pos hv] at h
theorem Yeo (h:tokN s i=R)(hq:¬(bt s i=39\/bt s i=34))(hv:¬(steB (bt s i)=true/\bt s (i+1)=46))(h2:cls (bt s i).toNat=2):
 (if i+60<Yf s (inner Yj) i then .bad 43 i else near s 3 i (Yf s (inner Yj) i))=R:=by
 rwa [tokN,if_neg hq,if_neg (by rw[h2]; decide),if_neg hv,if_pos h2] at h
theorem YgP (h:tokN s i=R)(hq:¬(bt s i=39\/bt s i=34))(h4:¬cls (bt s i).toNat=4)(hv:¬(steB (bt s i)=true/\bt s (i+1)=46))(h2:¬cls (bt s i).toNat=2)
 (h3:cls (bt s i).toNat=3\/(bt s i=45/\cls (bt s (i+1)).toNat=3)):
 (if Y8 (s.extract i (digE s (i+1)))=true then near s 4 i (digE s (i+1)) else .bad 43 i)=R:=by
 rwa [tokN,if_neg hq,if_neg h4,if_neg hv,if_neg h2,if_pos h3] at h
theorem Yen (h:tokN s i=R)(h36:bt s i=36):
 (if YaR (s.extract i (if cls (bt s (i+1)).toNat=2 then Yf s (inner Yj) (i+1) else i+1))=true then
   near s 7 i (if cls (bt s (i+1)).toNat=2 then Yf s (inner Yj) (i+1) else i+1) else .bad 45 i)=R:=by
 have e:cls (36:Int).toNat=0:=Zd;have e2:steB 36=false:=Zd;rwa [tokN,if_neg (by rw[h36]; decide),if_neg (by rw[h36,e]; decide),if_neg (by rw[h36,e2]; simp),if_neg (by rw[h36,e]; decide),if_neg (by rw[h36,e]; simp),if_pos h36] at h
theorem YgQ (h:tokN s i=R)(hq:¬(bt s i=39\/bt s i=34))(h4:¬cls (bt s i).toNat=4)(hv:¬(steB (bt s i)=true/\bt s (i+1)=46))(h2:¬cls (bt s i).toNat=2)
 (h3:¬(cls (bt s i).toNat=3\/(bt s i=45/\cls (bt s (i+1)).toNat=3)))(h36:¬bt s i=36):R= .bad 40 i:=by
 rw[tokN,if_neg hq,if_neg h4,if_neg hv,if_neg h2,if_neg h3,if_neg h36] at h; exact h.symm
theorem YoV {k:Int}{fr fin:Nat}(h:near s k fr fin=R)(hn:Ycr s fin=true):R= .bad 44 fin:=by rw[near,if_pos hn] at h; exact h.symm
theorem Yqc {k:Int}{fr fin:Nat}(h:near s k fr fin=R)(hn:Ycr s fin=false):R= .ok k (s.extract fr fin) fin:=by rw[near,if_neg (by simp[hn])] at h; exact h.symm
end
structure Tk where
 kind:Int
 text:ByteArray
 at_:Nat
inductive Ydr where
 |bad (code:Int) (at_:Nat)
 |ok (l:List Tk) (sp:List (Nat×Nat))
def Jd (s:ByteArray):Nat->Nat->List (Nat×Nat)->List Tk->Ydr
 |0,_,sp,acc=>.ok acc sp
 |
  n+1,i,sp,acc=>match YO s (s.size+1) i sp with
  |.err x=>.bad 42 x
  |
   .ok j sp'=>if j=s.size then .ok acc sp' else match tokN s j with
   |.bad c x=>.bad c x
   |.ok kind text fin=>Jd s n fin sp' (acc++[⟨kind,text,j⟩])
def Jr (s:ByteArray):Ydr:=if 40000<s.size then .bad 7 0 else Jd s (s.size+1) 0 [] []
section
variable {s:ByteArray}{n i j x fin:Nat}{sp sp':List (Nat×Nat)}{acc:List Tk}{R:Ydr}{c kind:Int}{text:ByteArray}
theorem Yop (h:Jd s (n+1) i sp acc=R)(hs:YO s (s.size+1) i sp= .err x):R= .bad 42 x:=by
 rw[Jd,hs] at h; exact h.symm
theorem YgN (h:Jd s (n+1) i sp acc=R)(hs:YO s (s.size+1) i sp= .ok j sp')(hj:j=s.size):R= .ok acc sp':=by
 rw[Jd,hs] at h; dsimp only at h; rw[if_pos hj] at h; exact h.symm
theorem Yoq (h:Jd s (n+1) i sp acc=R)(hs:YO s (s.size+1) i sp= .ok j sp')(hj:¬j=s.size)(ht:tokN s j= .bad c x):R= .bad c x:=by
 rw[Jd,hs] at h; dsimp only at h; rw[if_neg hj,ht] at h; exact h.symm
theorem YeE (h:Jd s (n+1) i sp acc=R)(hs:YO s (s.size+1) i sp= .ok j sp')(hj:¬j=s.size)(ht:tokN s j= .ok kind text fin):Jd s n fin sp' (acc++[⟨kind,text,j⟩])=R:=by
 rw[Jd,hs] at h; dsimp only at h; rw[if_neg hj,ht] at h; exact h
end
theorem YbB (s:ByteArray):∀(n i e:Nat),comN s n i=some e->i<e/\e<=s.size
 |0,i,e,h=>by simp[comN] at h
 |
  n+1,i,e,h=>by
  unfold comN at h;split at h
  ·split at h
   ·cases h; omega
   ·have:=YbB s n (i+1) e h; omega
  ·cases h
theorem JK (s:ByteArray):∀(n i:Nat) (sp:List (Nat×Nat)) (j:Nat) (sp':List (Nat×Nat)),i<=s.size->YO s n i sp= .ok j sp'->i<=j/\j<=s.size
 |0,i,sp,j,sp',h0,h=>by simp only[YO,Yej.ok.injEq] at h; omega
 |
  n+1,i,sp,j,sp',h0,h=>by
  unfold YO at h;split at h
  ·split at h
   ·have:=JK s n (i+1) _ j sp' Zo h; omega
   ·split at h
    ·have hl:=YW s Ye2 i Zo;have:=JK s n _ _ j sp' (by unfold YK; omega) h;unfold YK at this; omega
    ·split at h
     ·split at h
      ·cases h
      ·rename_i e he
       have hl:=YbB s _ _ _ he;have:=JK s n _ _ j sp' Zo h; omega
     ·cases h; omega
  ·cases h; omega
theorem YcB (s:ByteArray)(mark:Int)(hm:¬mark=0):∀(n i:Nat) (out out':List UInt8) (fin:Nat),quoN s mark n i out= .ok out' fin->i<fin/\fin<=s.size
 |0,i,out,out',fin,h=>by simp[quoN] at h
 |
  n+1,i,out,out',fin,h=>by
  have hin:∀k,¬bt s k=0->k<s.size:=fun k hk=>Nat.lt_of_not_le fun q=>hk (Jp q);unfold quoN at h;split at h
  ·rename_i hb
   have:=hin i (by rw[hb]; exact hm);cases h; omega
  ·split at h
   ·cases h
   ·split at h
    ·have:=YcB s mark hm n _ _ _ _ h; omega
    ·split at h
     ·have:=YcB s mark hm n _ _ _ _ h; omega
     ·split at h
      ·cases h
      ·split at h
       ·have:=YcB s mark hm n _ _ _ _ h; omega
       ·cases h
theorem YaC {s:ByteArray}{k kind:Int}{fr fin f:Nat}{text:ByteArray}(h:near s k fr fin= .ok kind text f):f=fin/\kind=k/\text=s.extract fr fin:=by
 unfold near at h; split at h
 ·cases h
 ·cases h; exact⟨rfl,rfl,rfl⟩
theorem Ycx {s:ByteArray}{i fin:Nat}{kind:Int}{text:ByteArray}(hi:i<s.size)(h:tokN s i= .ok kind text fin):i<fin/\fin<=s.size:=by
 unfold tokN at h;split at h
 ·rename_i hq
  unfold quoR at h;split at h
  ·cases h
  ·rename_i out f hqq
   have hm:¬bt s i=0:=by rcases hq with q | q<;>omega
   have:=YcB s _ hm _ _ _ _ _ hqq;split at h
   ·cases h; omega
   ·split at h
    ·cases h
    ·cases h; omega
 ·split at h
  ·cases h; omega
  ·split at h
   ·split at h
    ·cases h
    ·rename_i hst hlen
     obtain⟨rfl,_,_⟩:=YaC h;have h1:i+1<s.size:=Nat.lt_of_not_le fun q=>by rw[Jp q] at hst; exact absurd hst.2 Zd
     have:=YW s (inner Js) (i+2) Zo;omega
   ·split at h
    ·split at h
     ·cases h
     ·rename_i h2 hlen
      obtain⟨rfl,_,_⟩:=YaC h;have:=YW s (inner Yj) (i+1) Zo;rw[YE hi (by unfold inner; simp[h2])];omega
    ·split at h
     ·split at h
      ·obtain⟨rfl,_,_⟩:=YaC h;have:=YW s (fun c=>cls c.toNat==3) (i+1) Zo;unfold digE; omega
      ·cases h
     ·split at h
      ·generalize he:(if cls (bt s (i+1)).toNat=2 then Yf s (inner Yj) (i+1) else i+1)=e at h;have he2:i<e/\e<=s.size:=by
        subst he;have:=YW s (inner Yj) (i+1) Zo;split<;>omega
       split at h
       ·obtain⟨rfl,_,_⟩:=YaC h; exact he2
       ·cases h
      ·cases h
structure Cut (s t:ByteArray)(p:Nat):Prop where
 size:t.size=p
 le:p<=s.size
 byte:∀i,i<p->bt t i=bt s i
 bu:∀i,i<p->bu t i=bu s i
 text:∀i j,j<=p->t.extract i j=s.extract i j
section
variable {s t:ByteArray}{p:Nat}
theorem Cut.out (h:Cut s t p){i:Nat}(hi:p<=i):bt t i=0:=Jp (by rw[h.size]; exact hi)
theorem Yj4 (h:Cut s t p)(q:Int->Bool):∀(n i m:Nat),i<=p->p - i<=m->s.size - i<=n->runN s q n i<=p->runN t q m i=runN s q n i
 |
  0,i,m,h1,h2,h3,h4=>by
  have:=h.le;cases m with
  |zero=>rfl
  |
   succ m=>
   show runN t q (m+1) i=i;rw[runN,if_neg (by rw[h.size]; omega)]
 |
  n+1,i,m,h1,h2,h3,h4=>by
  unfold runN at h4;cases m with
  |
   zero=>
   have hip:i=p:=Zo;split at h4
   ·have:=YeU s q n (i+1);have hl:i<s.size:=by rename_i hc; exact hc.1
    have:=(YeU s q (s.size - (i+1)) (i+1) Zo).1;have h5:runN s q n (i+1)=runN s q (s.size - (i+1)) (i+1):=runN_fuel s q _ _ _ Zo Zo;omega
   ·rename_i hc; rw[runN,runN,if_neg hc]
  |
   succ m=>
   rw[runN,runN];split at h4
   ·rename_i hc
    have h5:runN s q n (i+1)=runN s q (s.size - (i+1)) (i+1):=runN_fuel s q _ _ _ Zo Zo;have h6:=(YeU s q (s.size - (i+1)) (i+1) Zo).1;have hip:i<p:=Zo;rw[if_pos hc,if_pos (by rw[h.size,h.byte i hip]; exact⟨hip,hc.2⟩)];exact Yj4 h q n (i+1) m Zo Zo Zo h4
   ·rename_i hc
    rw[if_neg hc];by_cases hip:i<p
    ·rw[if_neg (by rw[h.byte i hip]; have:=h.le; intro q; exact hc ⟨by omega,q.2⟩)]
    ·rw[if_neg (by rw[h.size]; omega)]
where
 runN_fuel (s:ByteArray) (q:Int->Bool):∀(n m i:Nat),s.size - i<=n->s.size - i<=m->runN s q n i=runN s q m i
  |0,0,_,_,_=>rfl
  |0,m+1,i,h1,_=>by rw[runN,runN,if_neg Zo]
  |n+1,0,i,_,h2=>by rw[runN,runN,if_neg Zo]
  |
   n+1,m+1,i,h1,h2=>by
   rw[runN,runN];split
   ·exact runN_fuel s q n m (i+1) Zo Zo
   ·rfl
theorem YmE (h:Cut s t p)(q:Int->Bool){i:Nat}(hi:i<=p)(hr:Yf s q i<=p):Yf t q i=Yf s q i:=by
 unfold Yf at hr⊢;exact Yj4 h q _ i _ hi (by rw[h.size]; omega) (Nat.le_refl _) hr
theorem YkH (h:Cut s t p){e:Nat}(he:e<=p):∀(n i m:Nat),comN s n i=some e->e - i<=m+1->comN t m i=some e
 |0,i,m,h1,_=>by simp[comN] at h1
 |
  n+1,i,m,h1,h2=>by
  have hl:=YbB s _ _ _ h1;unfold comN at h1;split at h1
  ·rename_i hi
   cases m with
   |
    zero=>
    split at h1
    ·cases h1; omega
    ·have:=YbB s _ _ _ h1;have h3:∀n,comN s n (i+1)=some e->i+3<=e:=fun n hn=>by
      cases n with
      |zero=>simp[comN] at hn
      |
       succ n=>
       unfold comN at hn;split at hn
       ·split at hn
        ·cases hn; omega
        ·have:=YbB s _ _ _ hn; omega
       ·cases hn
     have:=h3 n h1; omega
   |
    succ m=>
    rw[comN];split at h1
    ·rename_i hb
     cases h1;rw[if_pos (by rw[h.size]; omega),h.byte i Zo,h.byte (i+1) Zo,if_pos hb]
    ·rename_i hb
     have h3:=YbB s _ _ _ h1;rw[if_pos (by rw[h.size]; omega),h.byte i Zo,h.byte (i+1) Zo,if_neg hb];exact YkH h he n (i+1) m h1 Zo
  ·cases h1
theorem YlC (h:Cut s t p){e i:Nat}(he:e<=p)(h1:Yce s i=some e):Yce t i=some e:=by
 have:=YbB s _ _ _ h1;exact YkH h he _ i _ h1 (by rw[h.size]; omega)
theorem YdS (h:Cut s t p){i:Nat}(hi:i<p):Y7 t i=Y7 s i:=by
 unfold Y7; rw[h.byte i hi,h.byte (i - 1) Zo]
theorem Ylr (h:Cut s t p){i:Nat}(hi:i<p)(ho:isOpen s i=false):isOpen t i=false:=by
 by_cases h1:i+1<p
 ·unfold isOpen at ho⊢; rw[h.byte i hi,h.byte (i+1) h1]; exact ho
 ·unfold isOpen; rw[h.out (i:=i+1) Zo]; simp
theorem Yjn (h:Cut s t p){i:Nat}(hi:i+1<p):isOpen t i=isOpen s i:=by
 unfold isOpen; rw[h.byte i Zo,h.byte (i+1) hi]
theorem YjY {s:ByteArray}{i:Nat}(hi:i<s.size)(hst:Y7 s i=true):i<YK s i/\YK s i<=s.size:=by
 have hb:Ye2 (bt s i)=true:=by
  unfold Y7 at hst; simp only[Bool.and_eq_true,beq_iff_eq] at hst;unfold Ye2; rw[hst.1]; rfl
 unfold YK;rw[YE hi hb];have:=YW s Ye2 (i+1) Zo;omega
theorem YgW (h:Cut s t p):∀(n i:Nat) (sp:List (Nat×Nat)) (j:Nat) (sp':List (Nat×Nat)) (m:Nat),s.size - i<n->i<=p->j<=p->p - i<m->YO s n i sp= .ok j sp'->YO t m i sp= .ok j sp'
 |0,i,sp,j,sp',m,hn,_,_,_,_=>by omega
 |
  n+1,i,sp,j,sp',m,hn,hi,hj,hm,hs=>by
  have hle:=h.le;obtain⟨m,rfl⟩:∃k,m=k+1:=⟨m - 1,by omega⟩;have hij:=JK s _ _ _ _ _ Zo hs;unfold YO at hs;rw[YO,h.size];split at hs
  ·rename_i hlt
   split at hs
   ·rename_i hw
    have h2:=JK s _ _ _ _ _ Zo hs;rw[if_pos Zo,h.byte i Zo,if_pos hw];exact YgW h n _ _ _ _ m Zo Zo hj Zo hs
   ·rename_i hw
    split at hs
    ·rename_i hst
     have hl:=YjY hlt hst;have h2:=JK s _ _ _ _ _ hl.2 hs;have he:YK t i=YK s i:=YmE h _ hi (by unfold YK at h2; omega);rw[if_pos Zo,h.byte i Zo,if_neg hw,YdS h Zo,if_pos hst,he];exact YgW h n _ _ _ _ m Zo Zo hj Zo hs
    ·rename_i hst
     split at hs
     ·rename_i ho
      split at hs
      ·cases hs
      ·rename_i e he
       have hl:=YbB s _ _ _ he;have h2:=JK s _ _ _ _ _ hl.2 hs;rw[if_pos Zo,h.byte i Zo,if_neg hw,YdS h Zo,if_neg hst,Yjn h Zo,if_pos ho,YlC h Zo he];exact YgW h n _ _ _ _ m Zo Zo hj Zo hs
     ·rename_i ho
      cases hs;by_cases hip:i<p
      ·rw[if_pos hip,h.byte i hip,if_neg hw,YdS h hip,if_neg hst,Ylr h hip (by simpa using ho)]; rfl
      ·rw[if_neg hip]
  ·rename_i hlt
   cases hs;rw[if_neg Zo]
end
structure Agree (s t:ByteArray)(i fin:Nat):Prop where
 le:fin<=t.size
 le':fin<=s.size
 byte:∀x,i<=x->x<fin->bt t x=bt s x
 bu:∀x,i<=x->x<fin->bu t x=bu s x
 text:t.extract i fin=s.extract i fin
 fin:(bt t fin=bt s fin/\(fin<t.size↔fin<s.size))\/bt t fin=0\/bt t fin=32\/bt t fin=10
section
variable {s t:ByteArray}{a fin:Nat}
theorem Ybd (h:Agree s t a fin)(q:Int->Bool)(hq:q 0=false/\q 32=false/\q 10=false):∀(k i:Nat),fin - i=k->a<=i->i<=fin->Yf s q i=fin->Yf t q i=fin
 |
  0,i,hk,ha,hi,hr=>by
  obtain rfl:i=fin:=Zo;have hs:¬(i<s.size/\q (bt s i)=true):=by
   rintro⟨h1,h2⟩;rw[YE h1 h2] at hr;have:=YW s q (i+1) Zo;omega
  refine YD ?_;rintro⟨h1,h2⟩;rcases h.fin with⟨e,hz⟩ | e | e | e
  ·exact hs ⟨hz.1 h1,by rw[<-e]; exact h2⟩
  all_goals (rw[e] at h2; simp[hq] at h2)
 |
  k+1,i,hk,ha,hi,hr=>by
  have h1:=h.le;have h2:=h.le';by_cases hc:q (bt s i)=true
  ·rw[YE Zo (by rw[h.byte i ha Zo]; exact hc)];rw[YE Zo hc] at hr;exact Ybd h q hq k (i+1) Zo Zo Zo hr
  ·rw[YD (fun q=>hc q.2)] at hr; omega
theorem YcQ (more:ByteArray)(h:more=Js\/more=Yj):inner more 0=false/\inner more 32=false/\inner more 10=false:=by
 rcases h with rfl | rfl<;>decide
theorem Yeq (h:Agree s t a fin){mark:Int}(hm:¬mark=0):∀(n i:Nat) (out out':List UInt8) (m:Nat),a<=i->fin - i<=m->quoN s mark n i out= .ok out' fin->quoN t mark m i out= .ok out' fin
 |0,i,out,out',m,_,_,hq=>by simp[quoN] at hq
 |
  n+1,i,out,out',m,ha,hk,hq=>by
  have hle:=h.le;have hij:=YcB s mark hm _ _ _ _ _ hq;obtain⟨m,rfl⟩:∃k,m=k+1:=⟨m - 1,by omega⟩;unfold quoN at hq;rw[quoN,h.byte i ha Zo];split at hq
  ·rename_i hb; cases hq; rw[if_pos hb]
  ·rename_i hb
   rw[if_neg hb];split at hq
   ·cases hq
   ·rename_i hb2
    rw[if_neg Zo];split at hq
    ·rename_i h92
     have h3:=YcB s mark hm _ _ _ _ _ hq;rw[if_pos h92,h.bu i ha Zo];exact Yeq h hm n _ _ _ m Zo Zo hq
    ·rename_i h92
     rw[if_neg h92];split at hq
     ·rename_i mm hmm
      have h3:=YcB s mark hm _ _ _ _ _ hq;rw[h.byte (i+1) Zo Zo,hmm];exact Yeq h hm n _ _ _ m Zo Zo hq
     ·rename_i hmm
      split at hq
      ·cases hq
      ·rename_i hx
       split at hq
       ·rename_i x y hx1 hy1
        have h3:=YcB s mark hm _ _ _ _ _ hq;rw[h.byte (i+1) Zo Zo,h.byte (i+2) Zo Zo,h.byte (i+3) Zo Zo,hmm,hx1,hy1];dsimp only;rw[if_neg hx];exact Yeq h hm n _ _ _ m Zo Zo hq
       ·cases hq
theorem Ydd {i:Nat}(h:Agree s t i fin){k kind:Int}{f e:Nat}{text:ByteArray}(he:e=fin)(hn:near s k i e= .ok kind text f):near t k i e= .ok kind text f:=by
 subst he;unfold near at hn⊢;split at hn
 ·cases hn
 ·rename_i hb
  have:Ycr t e=false:=by
   unfold Ycr at hb⊢;rcases h.fin with⟨q,hz⟩ | q | q | q
   ·rw[q,show decide (e<t.size)=decide (e<s.size) from by simp[hz]]; simpa using hb
   all_goals (rw[q]; simp; intro _; decide)
  rw[this,h.text];simpa using hn
theorem Yos {i:Nat}{kind:Int}{text:ByteArray}(h:Agree s t i fin)(hi:i<s.size)(hk:tokN s i= .ok kind text fin):tokN t i= .ok kind text fin:=by
 have hle:=h.le;have hlt:=Ycx hi hk;have hb:=h.byte i (Nat.le_refl _) Zo;have hb1:bt t (i+1)=bt s (i+1)\/(¬bt t (i+1)=46/\fin=i+1):=by
  by_cases h1:i+1<fin
  ·exact .inl (h.byte _ Zo h1)
  ·have e:fin=i+1:=by omega
   rcases h.fin with⟨q,_⟩ | q | q | q
   ·exact .inl (e▸q)
   all_goals exact .inr ⟨by rw[<-e,q]; decide,e⟩
 unfold tokN at hk⊢;rw[hb];split at hk
 ·rename_i hq
  rw[if_pos hq];unfold quoR at hk⊢;split at hk
  ·cases hk
  ·rename_i out f hqq
   have hm:¬bt s i=0:=by rcases hq with q | q<;>omega
   have h2:=YcB s _ hm _ _ _ _ _ hqq;have hff:f=fin:=by
    split at hk
    ·cases hk; rfl
    ·split at hk
     ·cases hk
     ·cases hk; rfl
   subst hff;rw[Yeq h hm _ _ _ _ (t.size - i) Zo Zo hqq];exact hk
 ·rename_i hq
  rw[if_neg hq];split at hk
  ·rename_i h4
   have htx:=h.text;cases hk;rw[if_pos h4,htx]
  ·rename_i h4
   rw[if_neg h4];split at hk
   ·rename_i hv
    split at hk
    ·cases hk
    ·rename_i hl
     obtain⟨hfe,_,_⟩:=YaC hk;have hr:Yf t (inner Js) (i+2)=Yf s (inner Js) (i+2):=by
      rw[<-hfe]; exact Ybd h _ (YcQ _ (.inl rfl)) _ _ rfl Zo Zo hfe.symm
     have hbb:bt t (i+1)=bt s (i+1):=by rcases hb1 with e | e; exact e; omega
     rw[hbb,if_pos hv,hr,if_neg hl];exact Ydd h hfe.symm hk
   ·rename_i hv
    have hv2:¬(steB (bt s i)=true/\bt t (i+1)=46):=by
     rcases hb1 with e | e
     ·rw[e]; exact hv
     ·exact fun q=>e.1 q.2
    rw[if_neg hv2];split at hk
    ·rename_i h2
     rw[if_pos h2];split at hk
     ·cases hk
     ·rename_i hl
      obtain⟨hfe,_,_⟩:=YaC hk;have hr:Yf t (inner Yj) i=Yf s (inner Yj) i:=by
       rw[<-hfe]; exact Ybd h _ (YcQ _ (.inr rfl)) _ _ rfl Zo Zo hfe.symm
      rw[hr,if_neg hl];exact Ydd h hfe.symm hk
    ·rename_i h2
     rw[if_neg h2];split at hk
     ·rename_i h3
      have h3':cls (bt s i).toNat=3\/(bt s i=45/\cls (bt t (i+1)).toNat=3):=by
       rcases h3 with q | q
       ·exact .inl q
       ·refine .inr ⟨q.1,?_⟩;rcases hb1 with e | e
        ·rw[e]; exact q.2
        ·split at hk
         ·obtain⟨hfe,_,_⟩:=YaC hk;have h1:i+1<s.size:=Nat.lt_of_not_le fun qq=>by rw[Jp qq] at q; exact absurd q.2 Zd
          have hd:digE s (i+1)=digE s (i+2):=YE h1 (by simp[q.2]);have:=YW s (fun c=>cls c.toNat==3) (i+2) Zo;unfold digE at hd hfe;omega
         ·cases hk
      rw[if_pos h3'];split at hk
      ·rename_i hnum
       obtain⟨hfe,_,_⟩:=YaC hk;have he:digE t (i+1)=digE s (i+1):=by
        rw[<-hfe]; exact Ybd h _ ⟨by decide,by decide,by decide⟩ _ _ rfl Zo Zo hfe.symm
       have htx:t.extract i (digE s (i+1))=s.extract i (digE s (i+1)):=by rw[<-hfe]; exact h.text
       rw[he,htx,if_pos hnum];exact Ydd h hfe.symm hk
      ·cases hk
     ·rename_i h3
      split at hk
      ·rename_i h36
       have hc0:cls (bt s i).toNat=0:=by rw[h36]; decide
       have h3':¬(cls (bt s i).toNat=3\/(bt s i=45/\cls (bt t (i+1)).toNat=3)):=by rw[hc0,h36]; simp
       rw[if_neg h3',if_pos h36];generalize hE:(if cls (bt s (i+1)).toNat=2 then Yf s (inner Yj) (i+1) else i+1)=E at hk;split at hk
       ·rename_i hkey
        obtain⟨hfe,_,_⟩:=YaC hk;have hlen:fin≠i+1:=by
         intro e;rw[<-hfe,e] at hkey;have h1:(s.extract i (i+1)).toList.length=1:=by
          rw[Lib.toList_data,Array.length_toList];show(s.extract i (i+1)).size=1;rw[ByteArray.size_extract]; omega
         unfold YaR at hkey;generalize(s.extract i (i+1)).toList=l at h1 hkey;match l,h1 with
         |[_],_=>simp at hkey
        have hbb:bt t (i+1)=bt s (i+1):=by rcases hb1 with e | e; exact e; exact absurd e.2 hlen
        rw[hbb];by_cases hc:cls (bt s (i+1)).toNat=2
        ·rw[if_pos hc] at hE;have hr:Yf t (inner Yj) (i+1)=E:=by
          rw[<-hfe]; exact Ybd h _ (YcQ _ (.inr rfl)) _ _ rfl Zo Zo (by rw[hE,hfe])
         have htx:t.extract i E=s.extract i E:=by rw[<-hfe]; exact h.text
         rw[if_pos hc,hr,htx,if_pos hkey];exact Ydd h hfe.symm hk
        ·rw[if_neg hc] at hE; omega
       ·cases hk
      ·cases hk
end
theorem Yor (s:ByteArray):∀(n i:Nat) (sp:List (Nat×Nat)) (acc l:List Tk) (sp':List (Nat×Nat)),i<=s.size->Jd s n i sp acc= .ok l sp'->∃r,l=acc++r/\(∀x∈r,i<=x.at_/\x.at_<s.size)
 |0,i,sp,acc,l,sp',_,h=>by simp only[Jd,Ydr.ok.injEq] at h; exact⟨[],by simp[h.1],by simp⟩
 |
  n+1,i,sp,acc,l,sp',hi,h=>by
  unfold Jd at h;split at h
  ·cases h
  ·rename_i j sp1 hs
   have hj:=JK s _ _ _ _ _ hi hs;split at h
   ·cases h; exact⟨[],by simp,by simp⟩
   ·rename_i hne
    split at h
    ·cases h
    ·rename_i kind text fin ht
     have hf:=Ycx Zo ht;obtain⟨r,hr,hall⟩:=Yor s n _ _ _ _ _ hf.2 h;refine⟨⟨kind,text,j⟩::r,by simp[hr],fun x hx=>?_⟩;rcases List.mem_cons.1 hx with rfl | hx
     ·exact⟨hj.1,by show j<s.size; omega⟩
     ·have:=hall x hx; omega
def inSp (sp:List (Nat×Nat))(i:Nat):Bool:=sp.any fun p=>decide (p.1<=i)&&decide (i<p.2)
def blank (s:ByteArray)(sp:List (Nat×Nat))(i:Nat):UInt8:=if inSp sp i&&bu s i != 10 then 32 else bu s i
def YT (s:ByteArray)(sp:List (Nat×Nat)):ByteArray:=⟨Array.ofFn fun i:Fin s.size=>blank s sp i⟩
theorem YU (s:ByteArray)(sp:List (Nat×Nat)):(YT s sp).size=s.size:=by
 show(Array.ofFn _).size=_;simp
theorem YbW (s:ByteArray)(sp:List (Nat×Nat))(i:Nat)(h:i<s.size):bu (YT s sp) i=blank s sp i:=by
 have hs:=YU s sp;unfold bu;rw[dif_pos Zo];show(Array.ofFn fun i:Fin s.size=>blank s sp i)[i]'(by simpa using h)=_;simp
theorem YpP {s t:ByteArray}(h:s.size=t.size)(hb:∀i,i<s.size->bu s i=bu t i):s=t:=by
 apply ByteArray.ext;apply Array.ext h;intro i h1 h2;have:=hb i h1;unfold bu at this;rw[dif_pos (show i<s.size from h1),dif_pos (show i<t.size from h2)] at this;exact this
theorem Ylb (s:ByteArray):YT s []=s:=by
 refine YpP (YU s []) fun i hi=>?_;rw[YU] at hi;rw[YbW s [] i hi];simp[blank,inSp]
theorem YaL (s:ByteArray):∀(n i:Nat) (sp:List (Nat×Nat)) (j:Nat) (sp':List (Nat×Nat)),i<=s.size->s.size - i<n->YO s n i sp= .ok j sp'->
 ∃q,sp'=sp++q/\(∀p∈q,i<=p.1/\p.2<=j)/\(∀x,i<=x->x<j->inSp q x=true\/cls (bt s x).toNat=1)/\(j=s.size\/(¬cls (bt s j).toNat=1/\Y7 s j=false/\isOpen s j=false))
 |0,i,sp,j,sp',_,hn,_=>by omega
 |
  n+1,i,sp,j,sp',hi,hn,h=>by
  have hcons:∀(e:Nat),i<e->e<=s.size->YO s n e (sp++[(i,e)])= .ok j sp'->∃q,sp'=sp++q/\(∀p∈q,i<=p.1/\p.2<=j)/\(∀x,i<=x->x<j->inSp q x=true\/cls (bt s x).toNat=1)/\(j=s.size\/(¬cls (bt s j).toNat=1/\Y7 s j=false/\isOpen s j=false)):=by
   intro e h1 h2 hk;have hj:=JK s _ _ _ _ _ h2 hk;obtain⟨q,hq,hall,hx,he⟩:=YaL s n _ _ _ _ h2 Zo hk;refine⟨(i,e)::q,by simp[hq],fun p hp=>?_,fun x hx1 hx2=>?_,he⟩
   ·rcases List.mem_cons.1 hp with rfl | hp
    ·exact⟨Nat.le_refl _,hj.1⟩
    ·have:=hall p hp; omega
   ·by_cases hxe:x<e
    ·exact .inl (by simp[inSp]; exact .inl ⟨hx1,hxe⟩)
    ·rcases hx x Zo hx2 with q1 | q1
     ·exact .inl (by unfold inSp at q1⊢; rw[List.any_cons,q1,Bool.or_true])
     ·exact .inr q1
  unfold YO at h;split at h
  ·rename_i hlt
   split at h
   ·rename_i hw
    obtain⟨q,hq,hall,hx,he⟩:=YaL s n _ _ _ _ Zo Zo h;refine⟨q,hq,fun p hp=>by have:=hall p hp; omega,fun x hx1 hx2=>?_,he⟩;by_cases hxi:x=i
    ·exact .inr (hxi▸hw)
    ·exact hx x Zo hx2
   ·rename_i hw
    split at h
    ·rename_i hst
     have hl:=YjY hlt hst;exact hcons _ hl.1 hl.2 h
    ·rename_i hst
     split at h
     ·rename_i ho
      split at h
      ·cases h
      ·rename_i e he
       have hl:=YbB s _ _ _ he;exact hcons e Zo hl.2 h
     ·rename_i ho
      cases h;exact⟨[],by simp,by simp,fun x h1 h2=>by omega,.inr ⟨hw,by simpa using hst,by simpa using ho⟩⟩
  ·cases h;exact⟨[],by simp,by simp,fun x h1 h2=>by omega,.inl Zo⟩
theorem YcA (t:ByteArray)(sp:List (Nat×Nat)):∀(k i j m:Nat),j - i=k->i<=j->j<=t.size->t.size - i<m->(∀x,i<=x->x<j->cls (bt t x).toNat=1)->
 (j=t.size\/(¬cls (bt t j).toNat=1/\Y7 t j=false/\isOpen t j=false))->YO t m i sp= .ok j sp
 |
  0,i,j,m,hk,hij,hj,hm,_,he=>by
  obtain rfl:i=j:=Zo;obtain⟨m,rfl⟩:∃q,m=q+1:=⟨m - 1,by omega⟩;rw[YO];rcases he with he | ⟨h1,h2,h3⟩
  ·rw[if_neg Zo]
  ·by_cases hlt:i<t.size
   ·rw[if_pos hlt,if_neg h1,h2,h3]; rfl
   ·rw[if_neg hlt]
 |
  k+1,i,j,m,hk,hij,hj,hm,hw,he=>by
  obtain⟨m,rfl⟩:∃q,m=q+1:=⟨m - 1,by omega⟩;rw[YO,if_pos Zo,if_pos (hw i (Nat.le_refl _) Zo)];exact YcA t sp k (i+1) j m Zo Zo hj Zo (fun x h1 h2=>hw x Zo h2) he
theorem Ydv (s:ByteArray):∀(n i:Nat) (sp:List (Nat×Nat)) (acc l:List Tk) (sp':List (Nat×Nat)),i<=s.size->Jd s n i sp acc= .ok l sp'->∃q,sp'=sp++q/\∀p∈q,i<=p.1
 |0,i,sp,acc,l,sp',_,h=>by simp only[Jd,Ydr.ok.injEq] at h; exact⟨[],by simp[h.2],by simp⟩
 |
  n+1,i,sp,acc,l,sp',hi,h=>by
  unfold Jd at h;split at h
  ·cases h
  ·rename_i j sp1 hs
   have hj:=JK s _ _ _ _ _ hi hs;obtain⟨q,hq,hall,_,_⟩:=YaL s _ _ _ _ _ hi Zo hs;split at h
   ·cases h; exact⟨q,hq,fun p hp=>(hall p hp).1⟩
   ·rename_i hne
    split at h
    ·cases h
    ·rename_i kind text fin ht
     have hf:=Ycx Zo ht;obtain⟨r,hr,hall2⟩:=Ydv s n _ _ _ _ _ hf.2 h;refine⟨q++r,by simp[hr,hq],fun p hp=>?_⟩;rcases List.mem_append.1 hp with hp | hp
     ·exact(hall p hp).1
     ·have:=hall2 p hp; omega
theorem YaS (a b:List (Nat×Nat))(x:Nat):inSp (a++b) x=(inSp a x||inSp b x):=by simp[inSp]
theorem Yny {a:List (Nat×Nat)}{x i:Nat}(h:∀p∈a,p.2<=i)(hx:i<=x):inSp a x=false:=by
 unfold inSp;rw[List.any_eq_false];intro p hp;have:=h p hp;simp; omega
theorem Ynx {a:List (Nat×Nat)}{x i:Nat}(h:∀p∈a,i<=p.1)(hx:x<i):inSp a x=false:=by
 unfold inSp;rw[List.any_eq_false];intro p hp;have:=h p hp;simp; omega
theorem Ybr {s:ByteArray}{S:List (Nat×Nat)}{x:Nat}(hx:inSp S x=false):bt (YT s S) x=bt s x/\bu (YT s S) x=bu s x:=by
 have hs:=YU s S;by_cases h:x<s.size
 ·have e:bu (YT s S) x=bu s x:=by rw[YbW s S x h]; unfold blank; rw[hx]; rfl
  exact⟨by rw[YaE,YaE,e],e⟩
 ·refine⟨by rw[Jp Zo,Jp Zo],?_⟩;unfold bu; rw[dif_neg Zo,dif_neg Zo]
theorem YgV {s:ByteArray}{S:List (Nat×Nat)}{x:Nat}(h:x<s.size)(hx:inSp S x=true):bt (YT s S) x=32\/(bt (YT s S) x=10/\bt s x=10):=by
 rw[YaE,YaE,YbW s S x h];unfold blank;rw[hx];by_cases h10:bu s x=10
 ·rw[h10]; exact .inr ⟨rfl,rfl⟩
 ·simp[h10]
theorem YoA {s:ByteArray}{S:List (Nat×Nat)}{x:Nat}:bt (YT s S) x=10↔bt s x=10:=by
 by_cases h:x<s.size
 ·rw[YaE,YaE,YbW s S x h];unfold blank;by_cases h10:bu s x=10
  ·rw[h10]; simp
  ·have:¬((bu s x).toNat:Int)=10:=fun q=>h10 (UInt8.toNat_inj.1 (by show _=10; omega));cases inSp S x<;>simp[this,h10]
 ·rw[Jp (by rw[YU]; omega),Jp Zo]
theorem Yk9 {s:ByteArray}{S:List (Nat×Nat)}{i fin:Nat}(hf:fin<=s.size)(h:∀x,i<=x->x<fin->inSp S x=false):(YT s S).extract i fin=s.extract i fin:=by
 have hs:=YU s S;have e1:((YT s S).extract i fin).size=fin - i:=by rw[ByteArray.size_extract]; omega
 have e2:(s.extract i fin).size=fin - i:=by rw[ByteArray.size_extract]; omega
 refine YpP Zo fun x hx=>?_;have:=(Ybr (s:=s) (h (i+x) Zo Zo)).2;unfold bu at this⊢;rw[dif_pos Zo,dif_pos Zo] at this;rw[dif_pos hx,dif_pos Zo,ByteArray.getElem_extract,ByteArray.getElem_extract];exact this
theorem YfQ {s:ByteArray}{l:List Tk}{S:List (Nat×Nat)}:∀(n i:Nat) (sp:List (Nat×Nat)) (acc:List Tk) (m:Nat),i<=s.size->s.size - i<n->s.size - i<m->(∀p∈sp,p.2<=i)->
 Jd s n i sp acc= .ok l S->Jd (YT s S) m i [] acc= .ok l []
 |0,i,sp,acc,m,_,hn,_,_,_=>by omega
 |
  n+1,i,sp,acc,m,hi,hn,hm,hsp,h=>by
  have hsz:=YU s S;obtain⟨m,rfl⟩:∃q,m=q+1:=⟨m - 1,by omega⟩;have h0:=h;unfold Jd at h;split at h
  ·cases h
  ·rename_i j sp1 hs
   have hj:=JK s _ _ _ _ _ hi hs;obtain⟨q,hq,hall,hx,he⟩:=YaL s _ _ _ _ _ hi Zo hs;have hrest:∃r,S=sp++q++r/\∀p∈r,j<=p.1/\(j<s.size->j<p.1):=by
    split at h
    ·rename_i hje
     cases h; exact⟨[],by simp[hq],by simp⟩
    ·rename_i hne
     split at h
     ·cases h
     ·rename_i kind text fin ht
      have hf:=Ycx Zo ht;obtain⟨r,hr,hall2⟩:=Ydv s n _ _ _ _ _ hf.2 h;exact⟨r,by rw[hr,hq],fun p hp=>by have:=hall2 p hp; omega⟩
   obtain⟨r,hS,hr⟩:=hrest;have hspq:∀p∈sp++q,p.2<=j:=fun p hp=>by
    rcases List.mem_append.1 hp with hp | hp
    ·have:=hsp p hp; omega
    ·exact(hall p hp).2
   have hwhite:∀x,i<=x->x<j->cls (bt (YT s S) x).toNat=1:=fun x h1 h2=>by
    by_cases hin:inSp S x=true
    ·rcases YgV (s:=s) Zo hin with e | ⟨e,_⟩<;>rw[e]<;>decide
    ·rw[(Ybr (s:=s) (S:=S) (x:=x) (by simpa using hin)).1];rcases hx x h1 h2 with hc | hc
     ·rw[hS,YaS,YaS,hc] at hin; simp at hin
     ·exact hc
   have hend:j=(YT s S).size\/(¬cls (bt (YT s S) j).toNat=1/\Y7 (YT s S) j=false/\isOpen (YT s S) j=false):=by
    by_cases hje:j=s.size
    ·exact .inl (by rw[hsz]; exact hje)
    ·rcases he with he | ⟨h1,h2,h3⟩
     ·exact absurd he hje
     ·have hjS:inSp S j=false:=by
       rw[hS,YaS,Yny hspq (Nat.le_refl _),Ynx (i:=j+1) (fun p hp=>by have:=hr p hp; omega) Zo]; rfl
      have e:=(Ybr (s:=s) hjS).1;refine .inr ⟨by rw[e]; exact h1,?_,?_⟩
      ·unfold Y7 at h2⊢;rw[e];have:(bt (YT s S) (j - 1)==10)=(bt s (j - 1)==10):=by
        rw[Bool.eq_iff_iff]; simp only[beq_iff_eq]; exact YoA
       rw[this]; exact h2
      ·unfold isOpen at h3⊢;rw[e];by_cases hin:inSp S (j+1)=true
       ·by_cases hl:j+1<s.size
        ·rcases YgV (s:=s) hl hin with e | ⟨e,_⟩<;>rw[e]<;>simp
        ·rw[Jp (s:=YT s S) Zo]; simp
       ·rw[(Ybr (s:=s) (S:=S) (x:=j+1) (by simpa using hin)).1]; exact h3
   have hst:YO (YT s S) ((YT s S).size+1) i []= .ok j []:=YcA _ _ _ i j _ rfl hj.1 Zo Zo hwhite hend;rw[Jd,hst];dsimp only;split at h
   ·rename_i hje
    cases h;rw[if_pos Zo]
   ·rename_i hne
    rw[if_neg Zo];split at h
    ·cases h
    ·rename_i kind text fin ht
     have hf:=Ycx Zo ht;obtain⟨r2,hr2,hall2⟩:=Ydv s n _ _ _ _ _ hf.2 h;have hout:∀x,j<=x->x<fin->inSp S x=false:=fun x h1 h2=>by
      rw[hr2,hq,YaS,Yny hspq h1,Ynx hall2 h2]; rfl
     have hag:Agree s (YT s S) j fin:=by
      refine⟨by omega,hf.2,fun x h1 h2=>(Ybr (hout x h1 h2)).1,fun x h1 h2=>(Ybr (hout x h1 h2)).2,Yk9 hf.2 hout,?_⟩;by_cases hin:inSp S fin=true
      ·by_cases hl:fin<s.size
       ·rcases YgV (s:=s) hl hin with e | ⟨e,_⟩
        ·exact .inr (.inr (.inl e))
        ·exact .inr (.inr (.inr e))
       ·exact .inr (.inl (Jp Zo))
      ·exact .inl ⟨(Ybr (s:=s) (by simpa using hin)).1,by rw[hsz]⟩
     rw[Yos hag Zo ht];dsimp only;exact YfQ n fin _ _ m hf.2 Zo Zo (fun p hp=>by
      rw[hq] at hp;have:=hspq p hp; omega) h
theorem Ylg {s:ByteArray}{l:List Tk}{sp:List (Nat×Nat)}(h:Jr s= .ok l sp):Jr (YT s sp)= .ok l []:=by
 unfold Jr at h⊢;rw[YU];split at h
 ·cases h
 ·rename_i hs
  rw[if_neg hs];exact YfQ _ _ _ _ _ (Nat.zero_le _) Zo Zo Zs h
inductive Ts where
 |nil
 |cons (kind:Int) (text:ByteArray) (kids rest:Ts)
def Ts.len:Ts->Nat
 |.nil=>0
 |.cons _ _ _ rest=>rest.len+1
def Ts.app:Ts->Ts->Ts
 |.nil,b=>b
 |.cons k t kids rest,b=>.cons k t kids (rest.app b)
def Ts.nodes:Ts->Nat
 |.nil=>0
 |.cons _ _ kids rest=>kids.nodes+rest.nodes+1
def Ts.deep:Ts->Nat
 |.nil=>0
 |.cons k _ kids rest=>max (if k=4\/k=8\/kids.len≠0 then kids.deep+1 else 0) rest.deep
theorem Ts.app_nil:∀l:Ts,l.app .nil=l
 |.nil=>rfl
 |.cons _ _ _ rest=>by rw[Ts.app,Ts.app_nil rest]
theorem Ts.app_assoc:∀a b c:Ts,(a.app b).app c=a.app (b.app c)
 |.nil,_,_=>rfl
 |.cons _ _ _ rest,b,c=>by rw[Ts.app,Ts.app,Ts.app,Ts.app_assoc rest]
theorem Ts.len_app:∀a b:Ts,(a.app b).len=a.len+b.len
 |.nil,b=>by simp[Ts.app,Ts.len]
 |.cons _ _ _ rest,b=>by rw[Ts.app,Ts.len,Ts.len,Ts.len_app rest]; omega
theorem Ts.nodes_app:∀a b:Ts,(a.app b).nodes=a.nodes+b.nodes
 |.nil,b=>by simp[Ts.app,Ts.nodes]
 |.cons _ _ _ rest,b=>by rw[Ts.app,Ts.nodes,Ts.nodes,Ts.nodes_app rest]; omega
theorem Ts.deep_app:∀a b:Ts,(a.app b).deep=max a.deep b.deep
 |.nil,b=>by simp[Ts.app,Ts.deep]
 |.cons _ _ _ rest,b=>by rw[Ts.app,Ts.deep,Ts.deep,Ts.deep_app rest]; omega
theorem Ts.len_le:∀a:Ts,a.len<=a.nodes
 |.nil=>Nat.le_refl _
 |.cons _ _ kids rest=>by rw[Ts.len,Ts.nodes]; have:=Ts.len_le rest; omega
theorem Ts.len_zero:∀a:Ts,a.len=0↔a= .nil
 |.nil=>by simp[Ts.len]
 |.cons _ _ _ _=>by simp[Ts.len]
def Yt (s:ByteArray):Nat->Nat->Ts
 |0,_=>.nil
 |n+1,i=>.cons 1 (s.extract i (i+1)) .nil (Yt s n (i+1))
def YbK (s:ByteArray):Ts:=Yt s s.size 0
def JS (c:Int):Int:=if c=115 then 5 else if c=116 then 6 else 7
def varT (s:ByteArray)(rest:Ts):Ts:=if YF s=true then .cons (JS (bt s 0)) (s.extract 2 s.size) .nil rest else .cons 0 ⟨#[]⟩ .nil rest
inductive Rd (α:Type) where
 |ok (x:α) (i:Nat)
 |bad (at_:Nat) (code:Int)
def Rd.bind {α β:Type}:Rd α->(α->Nat->Rd β)->Rd β
 |.ok x i,f=>f x i
 |.bad a c,_=>.bad a c
def Yby (L:List Tk)(en i:Nat):Nat:=match L[i]? with
 |none=>en
 |some t=>t.at_
def JA {α:Type}(L:List Tk)(en i:Nat)(code:Int):Rd α:=.bad (Yby L en i) (if i<L.length\/code=5 then code else 51)
def isN (L:List Tk)(i:Nat)(kind:Int)(text:ByteArray):Bool:=match L[i]? with
 |none=>false
 |some t=>t.kind==kind&&decide (t.text=text)
def YG (L:List Tk)(en i:Nat)(sign:ByteArray):Rd Unit:=if isN L i 6 sign=true then .ok () (i+1) else JA L en i 50
def Jn (L:List Tk)(en i:Nat):Rd ByteArray:=match L[i]? with
 |none=>JA L en i 50
 |some t=>if t.kind=3/\t.text.size<=40 then .ok t.text (i+1) else JA L en i 50
def Yar:ByteArray:=⟨#[40]⟩
def Yax:ByteArray:=⟨#[41]⟩
def JW:ByteArray:=⟨#[60]⟩
def YbM:ByteArray:=⟨#[62]⟩
def YQ:ByteArray:=⟨#[123]⟩
def sEnd:ByteArray:=⟨#[125]⟩
def sEq:ByteArray:=⟨#[61]⟩
def YC:ByteArray:=⟨#[44]⟩
def Yaw:ByteArray:=⟨#[58]⟩
def Ja:ByteArray:=⟨#[59]⟩
def YaQ:ByteArray:=⟨#[36,69,78,84,82,89]⟩
def Yas:ByteArray:=⟨#[36,69,88,84,69,82,78]⟩
def Yc (L:List Tk)(en:Nat)(pat:Bool):Nat->Nat->Nat->Ts->Rd Ts
 |0,_,i,acc=>.ok acc i
 |
  n+1,deep,i,acc=>match L[i]? with
  |none=>.ok acc i
  |
   some t=>
   if t.kind=1 then Yc L en pat n deep (i+1) (acc.app (YbK t.text))
   else if t.kind=2\/t.kind=3 then Yc L en pat n deep (i+1) (acc.app (.cons 2 t.text .nil .nil))
   else if t.kind=4 then Yc L en pat n deep (i+1) (acc.app (.cons 3 t.text .nil .nil))
   else if t.kind=5 then Yc L en pat n deep (i+1) (acc.app (varT t.text .nil))
   else if t.kind=6/\t.text=Yar then
    if 100<=deep then .bad t.at_ 54
    else (Yc L en pat n (deep+1) (i+1) .nil).bind fun kids j=>(YG L en j Yax).bind fun _ k=>Yc L en pat n deep k (acc.app (.cons 4 ⟨#[]⟩ kids .nil))
   else if t.kind=6/\t.text=JW then
    if pat=true then .bad t.at_ 52
    else if 100<=deep then .bad t.at_ 54
    else (Jn L en (i+1)).bind fun nm m=>(Yc L en pat n (deep+1) m .nil).bind fun kids j=>(YG L en j YbM).bind fun _ k=>Yc L en pat n deep k (acc.app (.cons 8 nm kids .nil))
   else .ok acc i
def Jo (L:List Tk)(en:Nat)(pat:Bool)(i:Nat):Rd Ts:=
 (Yc L en pat (L.length+1) 0 i .nil).bind fun l j=>if 4000<l.nodes then JA L en j 5 else .ok l j
inductive Ss where
 |nil
 |cons (left:Ts) (tests:List (Ts×Ts)) (right subject:Ts) (block rest:Ss)
def Ss.app:Ss->Ss->Ss
 |.nil,b=>b
 |.cons l t r s k rest,b=>.cons l t r s k (rest.app b)
def Ss.len:Ss->Nat
 |.nil=>0
 |.cons _ _ _ _ _ rest=>rest.len+1
theorem Ss.app_assoc:∀a b c:Ss,(a.app b).app c=a.app (b.app c)
 |.nil,_,_=>rfl
 |.cons _ _ _ _ _ rest,b,c=>by rw[Ss.app,Ss.app,Ss.app,Ss.app_assoc rest]
theorem Ss.len_app:∀a b:Ss,(a.app b).len=a.len+b.len
 |.nil,b=>by simp[Ss.app,Ss.len]
 |.cons _ _ _ _ _ rest,b=>by rw[Ss.app,Ss.len,Ss.len,Ss.len_app rest]; omega
mutual
def Y9 (L:List Tk)(en:Nat):Nat->Nat->Nat->Ts->List (Ts×Ts)->Rd Ss
 |0,_,i,_,_=>.bad i 0
 |
  n+1,blocks,i,left,tests=>
  if isN L i 6 YC=true then
   (Jo L en false (i+1)).bind fun e j=>(YG L en j Yaw).bind fun _ k=>
     if isN L k 6 YQ=true then
      if 6<=blocks then JA L en k 54
      else (YA L en n (blocks+1) (k+1)).bind fun b m=>.ok (.cons left tests .nil e b .nil) m
     else (Jo L en true k).bind fun p m=>Y9 L en n blocks m left (tests++[(e,p)])
  else (YG L en i sEq).bind fun _ j=>(Jo L en false j).bind fun r k=>.ok (.cons left tests r .nil .nil .nil) k
def YA (L:List Tk)(en:Nat):Nat->Nat->Nat->Rd Ss
 |0,_,i=>.bad i 0
 |n+1,blocks,i=>if isN L i 6 sEnd=true\/isN L i 6 Ja=true then JA L en i 53 else JD L en n blocks i .nil
def JD (L:List Tk)(en:Nat):Nat->Nat->Nat->Ss->Rd Ss
 |0,_,i,_=>.bad i 0
 |
  n+1,blocks,i,acc=>
  (Jo L en true i).bind fun left j=>(Y9 L en n blocks j left []).bind fun s k=>
    if isN L k 6 Ja=true then
     if isN L (k+1) 6 sEnd=true then .ok (acc.app s) (k+2) else JD L en n blocks (k+1) (acc.app s)
    else if isN L k 6 sEnd=true then .ok (acc.app s) (k+1) else JA L en k 50
end
structure Fn where
 name:ByteArray
 entry:Bool
 sents:Ss
structure Md where
 externs:List ByteArray
 funcs:List Fn
def extN (L:List Tk)(en:Nat):Nat->Nat->List ByteArray->Rd (List ByteArray)
 |0,i,_=>.bad i 0
 |n+1,i,acc=>(Jn L en i).bind fun s j=>if isN L j 6 YC=true then extN L en n (j+1) (acc++[s]) else .ok (acc++[s]) j
def JY (L:List Tk)(en i:Nat)(m:Md):Rd Md:=
 if isN L i 7 Yas=true then (extN L en (L.length+1) (i+1) m.externs).bind fun l j=>(YG L en j Ja).bind fun _ k=>.ok ⟨l,m.funcs⟩ k
 else (Jn L en (if isN L i 7 YaQ=true then i+1 else i)).bind fun nm j=>(YG L en j YQ).bind fun _ k=>
  (YA L en (L.length+4) 0 k).bind fun b q=>.ok ⟨m.externs,m.funcs++[⟨nm,isN L i 7 YaQ,b⟩]⟩ q
def Y2 (L:List Tk)(en:Nat):Nat->Nat->Md->Rd Md
 |0,i,_=>.bad i 0
 |n+1,i,m=>if i<L.length then (JY L en i m).bind fun m' j=>Y2 L en n j m' else .ok m i
def readB (s:ByteArray):Rd Md:=match Jr s with
 |.bad c x=>.bad x c
 |.ok l _=>Y2 l s.size (l.length+1) 0 ⟨[],[]⟩
theorem Rd.bind_inv {α β:Type}{r:Rd α}{f:α->Nat->Rd β}{y:β}{k:Nat}(h:r.bind f= .ok y k):∃x i,r= .ok x i/\f x i= .ok y k:=by
 cases r with
 |ok x i=>exact⟨x,i,rfl,h⟩
 |bad a c=>cases h
theorem Y0 {L:List Tk}{en i:Nat}{s:ByteArray}{u:Unit}{k:Nat}(h:YG L en i s= .ok u k):isN L i 6 s=true/\k=i+1:=by
 unfold YG JA at h;split at h
 ·rename_i hq; cases h; exact⟨hq,rfl⟩
 ·cases h
theorem YaD {L:List Tk}{en i:Nat}{s:ByteArray}{k:Nat}(h:Jn L en i= .ok s k):k=i+1:=by
 unfold Jn JA at h;split at h
 ·cases h
 ·split at h
  ·cases h; rfl
  ·cases h
theorem Ju {L:List Tk}{en:Nat}{pat:Bool}:∀(n deep i:Nat) (acc l:Ts) (j:Nat),Yc L en pat n deep i acc= .ok l j->i<=j
 |0,_,_,_,_,_,h=>by cases h; exact Nat.le_refl _
 |
  n+1,deep,i,acc,l,j,h=>by
  unfold Yc at h;split at h
  ·cases h; exact Nat.le_refl _
  ·split at h
   ·have:=Ju n _ _ _ _ _ h; omega
   ·split at h
    ·have:=Ju n _ _ _ _ _ h; omega
    ·split at h
     ·have:=Ju n _ _ _ _ _ h; omega
     ·split at h
      ·have:=Ju n _ _ _ _ _ h; omega
      ·split at h
       ·split at h
        ·cases h
        ·obtain⟨kids,j1,h1,h⟩:=Rd.bind_inv h;obtain⟨_,k,h2,h⟩:=Rd.bind_inv h;have e1:=Ju n _ _ _ _ _ h1;have e2:=(Y0 h2).2;have e3:=Ju n _ _ _ _ _ h;omega
       ·split at h
        ·split at h
         ·cases h
         ·split at h
          ·cases h
          ·obtain⟨nm,m,h0,h⟩:=Rd.bind_inv h;obtain⟨kids,j1,h1,h⟩:=Rd.bind_inv h;obtain⟨_,k,h2,h⟩:=Rd.bind_inv h;have e0:=YaD h0;have e1:=Ju n _ _ _ _ _ h1;have e2:=(Y0 h2).2;have e3:=Ju n _ _ _ _ _ h;omega
        ·cases h; exact Nat.le_refl _
def JH (L:List Tk)(en:Nat)(pat:Bool)(n:Nat)(call:Bool)(deep i:Nat):Rd (Int×ByteArray×Ts):=
 if (call&&pat)=true then JA L en i 52
 else if 100<=deep then JA L en i 54
 else if call=true then (Jn L en (i+1)).bind fun nm m=>(Yc L en pat n (deep+1) m .nil).bind fun kids j=>(YG L en j YbM).bind fun _ k=>.ok (8,nm,kids) k
 else (Yc L en pat n (deep+1) (i+1) .nil).bind fun kids j=>(YG L en j Yax).bind fun _ k=>.ok (4,⟨#[]⟩,kids) k
theorem Ykr {L:List Tk}{en:Nat}{pat:Bool}{n:Nat}{call:Bool}{deep i:Nat}{x:Int×ByteArray×Ts}{k:Nat}(h:JH L en pat n call deep i= .ok x k):i<k:=by
 unfold JH JA at h;split at h
 ·cases h
 ·split at h
  ·cases h
  ·split at h
   ·obtain⟨nm,m,h0,h⟩:=Rd.bind_inv h;obtain⟨kids,j1,h1,h⟩:=Rd.bind_inv h;obtain⟨_,k,h2,h⟩:=Rd.bind_inv h;cases h;have e0:=YaD h0;have e1:=Ju n _ _ _ _ _ h1;have e2:=(Y0 h2).2;omega
   ·obtain⟨kids,j1,h1,h⟩:=Rd.bind_inv h;obtain⟨_,k,h2,h⟩:=Rd.bind_inv h;cases h;have e1:=Ju n _ _ _ _ _ h1;have e2:=(Y0 h2).2;omega
theorem Rd.bind_assoc {α β γ:Type}(r:Rd α)(f:α->Nat->Rd β)(g:β->Nat->Rd γ):(r.bind f).bind g=r.bind fun x i=>(f x i).bind g:=by cases r<;>rfl
section
variable {L:List Tk}{en:Nat}{pat:Bool}{n deep i:Nat}{acc:Ts}{t:Tk}
theorem Ymf (h:L[i]? =none):Yc L en pat (n+1) deep i acc= .ok acc i:=by unfold Yc; rw[h]
theorem Yi6 (h:L[i]? =some t)(hk:t.kind=1):Yc L en pat (n+1) deep i acc=Yc L en pat n deep (i+1) (acc.app (YbK t.text)):=by
 conv=>lhs; unfold Yc
 rw[h]; dsimp only; rw[if_pos hk]
theorem YfX (h:L[i]? =some t)(hk:t.kind=2\/t.kind=3):Yc L en pat (n+1) deep i acc=Yc L en pat n deep (i+1) (acc.app (.cons 2 t.text .nil .nil)):=by
 conv=>lhs; unfold Yc
 rw[h]; dsimp only; rw[if_neg Zo,if_pos hk]
theorem Ymg (h:L[i]? =some t)(hk:t.kind=4):Yc L en pat (n+1) deep i acc=Yc L en pat n deep (i+1) (acc.app (.cons 3 t.text .nil .nil)):=by
 conv=>lhs; unfold Yc
 rw[h]; dsimp only; rw[if_neg Zo,if_neg Zo,if_pos hk]
theorem Yme (h:L[i]? =some t)(hk:t.kind=5):Yc L en pat (n+1) deep i acc=Yc L en pat n deep (i+1) (acc.app (varT t.text .nil)):=by
 conv=>lhs; unfold Yc
 rw[h]; dsimp only; rw[if_neg Zo,if_neg Zo,if_neg Zo,if_pos hk]
theorem YfZ (h:L[i]? =some t)(hk:t.kind=6)(ht:t.text=Yar\/t.text=JW):
 Yc L en pat (n+1) deep i acc=(JH L en pat n (decide (t.text=JW)) deep i).bind fun x k=>Yc L en pat n deep k (acc.app (.cons x.1 x.2.1 x.2.2 .nil)):=by
 have hi:i<L.length:=by
  refine Nat.lt_of_not_le fun q=>?_;rw[List.getElem?_eq_none q] at h; cases h
 have hf:∀{α:Type} (c:Int),(JA L en i c:Rd α)= .bad t.at_ c:=fun c=>by unfold JA Yby; rw[h,if_pos (.inl hi)]
 have hne:¬(Yar=JW):=Zd;conv=>lhs; unfold Yc
 rw[h]; dsimp only; rw[if_neg Zo,if_neg Zo,if_neg Zo,if_neg Zo];unfold JH;rcases ht with ht | ht
 ·rw[if_pos ⟨hk,ht⟩,decide_eq_false (by rw[ht]; exact hne),Bool.false_and,if_neg Bool.false_ne_true];by_cases hd:100<=deep
  ·rw[if_pos hd,if_pos hd,hf]; rfl
  ·rw[if_neg hd,if_neg hd,if_neg Bool.false_ne_true,Rd.bind_assoc];simp only[Rd.bind_assoc];rfl
 ·rw[if_neg (by rw[ht]; intro q; exact hne q.2.symm),if_pos ⟨hk,ht⟩,decide_eq_true ht,Bool.true_and];cases pat with
  |true=>rw[if_pos rfl,if_pos rfl,hf]; rfl
  |
   false=>
   rw[if_neg Bool.false_ne_true,if_neg Bool.false_ne_true];by_cases hd:100<=deep
   ·rw[if_pos hd,if_pos hd,hf]; rfl
   ·rw[if_neg hd,if_neg hd,if_pos rfl,Rd.bind_assoc];simp only[Rd.bind_assoc];rfl
theorem YfY (h:L[i]? =some t)(h1:¬t.kind=1)(h2:¬(t.kind=2\/t.kind=3))(h4:¬t.kind=4)(h5:¬t.kind=5)(h6:t.kind=6->¬t.text=Yar/\¬t.text=JW):Yc L en pat (n+1) deep i acc= .ok acc i:=by
 unfold Yc;rw[h]; dsimp only; rw[if_neg h1,if_neg h2,if_neg h4,if_neg h5,if_neg (fun q=>(h6 q.1).1 q.2),if_neg (fun q=>(h6 q.1).2 q.2)]
end
theorem Yft (s:ByteArray):∀n i:Nat,(Yt s n i).nodes=n
 |0,_=>rfl
 |n+1,i=>by rw[Yt,Ts.nodes,Yft s n]; simp[Ts.nodes]
theorem YkZ (s:ByteArray):(varT s .nil).nodes=1:=by unfold varT; split<;>rfl
theorem Ybo {L:List Tk}(hs:∀x∈L,x.text.size<=40000){en:Nat}{pat:Bool}:∀(n deep i:Nat) (acc l:Ts) (j:Nat),Yc L en pat n deep i acc= .ok l j->l.nodes<=acc.nodes+(j - i)*40001
 |0,_,_,_,_,_,h=>by cases h; exact Nat.le_add_right _ _
 |
  n+1,deep,i,acc,l,j,h=>by
  have step:∀{i2:Nat} {l2:Ts},Yc L en pat n deep i2 (acc.app l2)= .ok l j->i<i2->l2.nodes<=(i2 - i)*40001->l.nodes<=acc.nodes+(j - i)*40001:=by
   intro i2 l2 h2 hi hl;have e1:=Ybo hs n _ _ _ _ _ h2;have e2:=Ju n _ _ _ _ _ h2;rw[Ts.nodes_app] at e1;have e3:(j - i)*40001=(i2 - i)*40001+(j - i2)*40001:=by rw[<-Nat.add_mul]; congr 1; omega
   omega
  unfold Yc at h;split at h
  ·cases h; exact Nat.le_add_right _ _
  ·rename_i t ht
   have hz:=hs t (List.mem_of_getElem? ht);split at h
   ·refine step h Zo ?_;unfold YbK; rw[Yft]; have:i+1 - i=1:=Zo
    rw[this]; omega
   ·split at h
    ·refine step h Zo ?_;have:i+1 - i=1:=Zo;rw[this]; simp[Ts.nodes]
    ·split at h
     ·refine step h Zo ?_;have:i+1 - i=1:=Zo;rw[this]; simp[Ts.nodes]
     ·split at h
      ·refine step h Zo ?_;have:i+1 - i=1:=Zo;rw[this,YkZ]; omega
      ·split at h
       ·split at h
        ·cases h
        ·obtain⟨kids,j1,h1,h⟩:=Rd.bind_inv h;obtain⟨_,k,h2,h⟩:=Rd.bind_inv h;have e1:=Ju n _ _ _ _ _ h1;have e2:=(Y0 h2).2;have e3:=Ybo hs n _ _ _ _ _ h1;simp only[Ts.nodes] at e3;refine step h Zo ?_;have e4:(k - i)*40001=(j1 - (i+1))*40001+2*40001:=by rw[<-Nat.add_mul]; congr 1; omega
         simp only[Ts.nodes];omega
       ·split at h
        ·split at h
         ·cases h
         ·split at h
          ·cases h
          ·obtain⟨nm,m,h0,h⟩:=Rd.bind_inv h;obtain⟨kids,j1,h1,h⟩:=Rd.bind_inv h;obtain⟨_,k,h2,h⟩:=Rd.bind_inv h;have e0:=YaD h0;have e1:=Ju n _ _ _ _ _ h1;have e2:=(Y0 h2).2;have e3:=Ybo hs n _ _ _ _ _ h1;simp only[Ts.nodes] at e3;refine step h Zo ?_;have e4:(k - i)*40001=(j1 - m)*40001+(k - i - (j1 - m))*40001:=by rw[<-Nat.add_mul]; congr 1; omega
           have e5:1*40001<=(k - i - (j1 - m))*40001:=Nat.mul_le_mul_right _ Zo;simp only[Ts.nodes];omega
        ·cases h; exact Nat.le_add_right _ _
section
variable {L:List Tk}{en:Nat}
theorem J0 {pat:Bool}{i:Nat}{l:Ts}{j:Nat}(h:Jo L en pat i= .ok l j):i<=j:=by
 unfold Jo JA at h;obtain⟨x,k,h1,h⟩:=Rd.bind_inv h;have:=Ju _ _ _ _ _ _ h1;split at h
 ·cases h
 ·cases h; omega
def Jl (L:List Tk)(en n blocks i:Nat):Rd Ss:=(Jo L en true i).bind fun left j=>Y9 L en n blocks j left []
theorem Yjb {n blocks i:Nat}{left:Ts}{tests:List (Ts×Ts)}(h:isN L i 6 YC=false):
 Y9 L en (n+1) blocks i left tests=(YG L en i sEq).bind fun _ j=>(Jo L en false j).bind fun r k=>.ok (.cons left tests r .nil .nil .nil) k:=by
 unfold Y9; rw[h,if_neg Bool.false_ne_true]
theorem YgX {n blocks i:Nat}{left:Ts}{tests:List (Ts×Ts)}(h:isN L i 6 YC=true):
 Y9 L en (n+1) blocks i left tests=(Jo L en false (i+1)).bind fun e j=>(YG L en j Yaw).bind fun _ k=>
  if isN L k 6 YQ=true then
   if 6<=blocks then JA L en k 54
   else (YA L en n (blocks+1) (k+1)).bind fun b m=>.ok (.cons left tests .nil e b .nil) m
  else (Jo L en true k).bind fun p m=>Y9 L en n blocks m left (tests++[(e,p)]):=by
 conv=>lhs; unfold Y9
 rw[h,if_pos rfl]
mutual
theorem YeQ:∀(n blocks i:Nat) (left:Ts) (tests:List (Ts×Ts)) (s:Ss) (j:Nat),Y9 L en n blocks i left tests= .ok s j->i<j
 |0,_,_,_,_,_,_,h=>by unfold Y9 at h; cases h
 |
  n+1,blocks,i,left,tests,s,j,h=>by
  unfold Y9 at h;split at h
  ·obtain⟨e,j1,he,h⟩:=Rd.bind_inv h;obtain⟨_,k,hm,h⟩:=Rd.bind_inv h;have e1:=J0 he;have e2:=(Y0 hm).2;split at h
   ·split at h
    ·cases h
    ·obtain⟨b,m,hb,h⟩:=Rd.bind_inv h;cases h;have:=Yj0 n _ _ _ _ hb;omega
   ·obtain⟨p,m,hp,h⟩:=Rd.bind_inv h;have e3:=J0 hp;have:=YeQ n _ _ _ _ _ _ h;omega
  ·obtain⟨_,k,hm,h⟩:=Rd.bind_inv h;obtain⟨r,q,hr,h⟩:=Rd.bind_inv h;cases h;have e2:=(Y0 hm).2;have e3:=J0 hr;omega
theorem Yj0:∀(n blocks i:Nat) (s:Ss) (j:Nat),YA L en n blocks i= .ok s j->i<j
 |0,_,_,_,_,h=>by unfold YA at h; cases h
 |
  n+1,blocks,i,s,j,h=>by
  unfold YA at h;split at h
  ·cases h
  ·exact Ym6 n _ _ _ _ _ h
theorem Ym6:∀(n blocks i:Nat) (acc s:Ss) (j:Nat),JD L en n blocks i acc= .ok s j->i<j
 |0,_,_,_,_,_,h=>by unfold JD at h; cases h
 |
  n+1,blocks,i,acc,s,j,h=>by
  unfold JD at h;obtain⟨left,j1,hl,h⟩:=Rd.bind_inv h;obtain⟨x,k,hx,h⟩:=Rd.bind_inv h;have e1:=J0 hl;have e2:=YeQ n _ _ _ _ _ _ hx;split at h
  ·split at h
   ·cases h; omega
   ·have:=Ym6 n _ _ _ _ _ h; omega
  ·split at h
   ·cases h; omega
   ·cases h
end
theorem Yja {n blocks i:Nat}{s:Ss}{j:Nat}(h:Jl L en n blocks i= .ok s j):i<j:=by
 obtain⟨l,k,h1,h2⟩:=Rd.bind_inv h;have:=J0 h1;have:=YeQ _ _ _ _ _ _ _ h2;omega
theorem Yqf {n blocks i:Nat}{acc:Ss}:JD L en (n+1) blocks i acc=(Jl L en n blocks i).bind fun s k=>
 if isN L k 6 Ja=true then
  if isN L (k+1) 6 sEnd=true then .ok (acc.app s) (k+2) else JD L en n blocks (k+1) (acc.app s)
 else if isN L k 6 sEnd=true then .ok (acc.app s) (k+1) else JA L en k 50:=by
 conv=>lhs; unfold JD
 unfold Jl;rw[Rd.bind_assoc]
mutual
theorem YgY:∀(n blocks i:Nat) (left:Ts) (tests:List (Ts×Ts)) (s:Ss) (j:Nat),Y9 L en n blocks i left tests= .ok s j->s.len=1
 |0,_,_,_,_,_,_,h=>by unfold Y9 at h; cases h
 |
  n+1,blocks,i,left,tests,s,j,h=>by
  unfold Y9 at h;split at h
  ·obtain⟨e,j1,he,h⟩:=Rd.bind_inv h;obtain⟨_,k,hm,h⟩:=Rd.bind_inv h;split at h
   ·split at h
    ·cases h
    ·obtain⟨b,m,hb,h⟩:=Rd.bind_inv h;cases h; rfl
   ·obtain⟨p,m,hp,h⟩:=Rd.bind_inv h;exact YgY n _ _ _ _ _ _ h
  ·obtain⟨_,k,hm,h⟩:=Rd.bind_inv h;obtain⟨r,q,hr,h⟩:=Rd.bind_inv h;cases h; rfl
end
end
end Go.Proofs.YteamjdmhdfjopaaGreatDoor
