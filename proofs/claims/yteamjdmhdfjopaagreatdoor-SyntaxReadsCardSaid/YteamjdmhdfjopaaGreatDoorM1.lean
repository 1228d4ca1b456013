/- A part of the proof; it holds the texts Px Sp Trp Snp (names and blanks shortened). -/
import Derived.Lib.Bytealg
import Derived.Lib.Index
import Derived.Lib.Strings
import Derived.Lib.SlTrimSet
import Derived.Lib.Hide
namespace Go.Proofs.YteamjdmhdfjopaaGreatDoor
open Go.RowKit
set_option maxRecDepth 100000
set_option maxHeartbeats 8000000
set_option linter.unusedVariables false
set_option linter.unusedSimpArgs false
theorem Zo {p:Prop}(h:p:=by omega):p:=h
theorem Zd {p:Prop}(h:p:=by decide):p:=h
theorem Zs {p:Prop}(h:p:=by simp):p:=h
theorem Zr {p:Prop}(h:p:=by rfl):p:=h
theorem Zt {p:Prop}[Decidable p](h:p:=by omega):decide p=true:=decide_eq_true h
theorem Zf {p:Prop}[Decidable p](h:¬p:=by omega):decide p=false:=decide_eq_false h
theorem Zh {p:Prop}(h:p):Hid p:=Lib.hid h
theorem Zg {α:Type}{l:Array α}{i:Nat}{a:α}(h:l[i]? =some a):∃h:i<l.size,l[i]=a:=Array.getElem?_eq_some_iff.mp h
def cls (c:Nat):Int:=
 if c=32\/c=9\/c=10\/c=13 then 1
 else if 97<=c/\c<=122\/65<=c/\c<=90 then 2
 else if 48<=c/\c<=57 then 3
 else if c=40\/c=41\/c=60\/c=62\/c=123\/c=125\/c=61\/c=44\/c=58\/c=59 then 4 else 0
def bt (s:ByteArray)(i:Nat):Int:=if h:i<s.size then (s[i].toNat:Int) else 0
theorem Yq {s:ByteArray}{i:Nat}(h:i<s.size):((s[i]'h).toNat:Int)=bt s i:=by unfold bt; rw[dif_pos h]
theorem JU {s:ByteArray}{i:Nat}(h:s.size<=i):bt s i=0:=by unfold bt; rw[dif_neg Zo]
theorem YB (s:ByteArray)(i:Nat):0<=bt s i:=by unfold bt; split<;>omega
theorem Jk (s:ByteArray)(i:Nat):bt s i<=255:=by
 unfold bt;split
 ·have:=(s[i]).toNat_lt; omega
 ·omega
def hexv (c:Int):Option Int:=
 if 48<=c/\c<=57 then some (c - 48) else if 97<=c/\c<=102 then some (c - 87) else if 65<=c/\c<=70 then some (c - 55) else none
def runN (s:ByteArray)(p:Int->Bool):Nat->Nat->Nat
 |0,i=>i
 |n+1,i=>if i<s.size/\p (bt s i)=true then runN s p n (i+1) else i
def Yo (s:ByteArray)(p:Int->Bool)(i:Nat):Nat:=runN s p (s.size - i) i
theorem YD {s:ByteArray}{p:Int->Bool}{i:Nat}(h:i<s.size)(hp:p (bt s i)=true):Yo s p i=Yo s p (i+1):=by
 unfold Yo;rw[show s.size - i=(s.size - (i+1))+1 by omega,runN,if_pos ⟨h,hp⟩]
theorem Yk {s:ByteArray}{p:Int->Bool}{i:Nat}(h:¬(i<s.size/\p (bt s i)=true)):Yo s p i=i:=by
 unfold Yo;cases s.size - i<;>simp[runN,h]
theorem YkA (s:ByteArray)(p:Int->Bool):∀n i,i+n<=s.size->i<=runN s p n i/\runN s p n i<=s.size
 |0,i,h=>⟨Nat.le_refl _,by simpa[runN] using h⟩
 |
  n+1,i,h=>by
  unfold runN;split
  ·have:=YkA s p n (i+1) Zo; exact⟨by omega,this.2⟩
  ·exact⟨Nat.le_refl _,by omega⟩
theorem YI (s:ByteArray)(p:Int->Bool)(i:Nat)(h:i<=s.size):i<=Yo s p i/\Yo s p i<=s.size:=YkA s p _ i Zo
def inner (more:ByteArray)(c:Int):Bool:=cls c.toNat==2||cls c.toNat==3||decide (0<=Lib.indexByte more.data.toList c.toNat.toUInt8)
def Yj:ByteArray:=⟨#[45,95]⟩
def JI:ByteArray:=⟨#[]⟩
def Jb (s:ByteArray):Bool:=decide (s.size≠0)&&decide (s.size<=60)&&(cls (bt s 0).toNat==2)&&decide (Yo s (inner Yj) 1=s.size)
def steB (c:Int):Bool:=c==115||c==116||c==101
def Y2 (s:ByteArray):Bool:=decide (3<=s.size)&&decide (s.size<=42)&&steB (bt s 0)&&(bt s 1==46)&&decide (Yo s (inner JI) 2=s.size)
def YbU (s:ByteArray):Bool:=s.toList==[36,69,78,84,82,89]||s.toList==[36,69,88,84,69,82,78]
theorem drop_cons {s:ByteArray}{i:Nat}(h:i<s.size):s.data.toList.drop i=(s[i]'h)::s.data.toList.drop (i+1):=by
 rw[List.drop_eq_getElem_cons (by simpa using h)];rfl
theorem drop_end {s:ByteArray}{i:Nat}(h:s.size<=i):s.data.toList.drop i=[]:=List.drop_eq_nil_of_le (by simpa using h)
theorem Yj5 (c:UInt8)(n:Nat)(h:n<256):c=n.toUInt8↔(c.toNat:Int)=n:=by
 constructor
 ·rintro rfl; simp[Nat.mod_eq_of_lt h]
 ·intro e; apply UInt8.toNat_inj.1; simp[Nat.mod_eq_of_lt h]; omega
def YbV (c:Int):Bool:=!(c==10)
def Ym (s:ByteArray)(at_:Nat):Nat:=Yo s YbV at_
theorem YdJ (s:ByteArray):∀(n i:Nat),s.size - i=n->(Lib.indexByte (s.data.toList.drop i) 10<0->i<=s.size->Ym s i=s.size)/\(0<=Lib.indexByte (s.data.toList.drop i) 10->(Ym s i:Int)=i+Lib.indexByte (s.data.toList.drop i) 10)
 |
  0,i,h=>by
  rw[drop_end Zo];simp only[Lib.indexByte];refine⟨fun _ h2=>?_,fun h=>by omega⟩;unfold Ym;rw[Yk Zo]; omega
 |
  n+1,i,h=>by
  have hi:i<s.size:=Zo;have ih:=YdJ s n (i+1) Zo;rw[drop_cons hi];simp only[Lib.indexByte];have hge:=Lib.indexByte_ge (s.data.toList.drop (i+1)) 10;by_cases hc:(s[i]'hi)=10
  ·have hb:bt s i=10:=by rw[<-Yq hi,hc]; rfl
   simp only[hc,beq_self_eq_true,if_true];refine⟨fun h=>by omega,fun _=>?_⟩;unfold Ym;rw[Yk (by rintro⟨_,q⟩; rw[hb] at q; cases q)]; omega
  ·have hb:YbV (bt s i)=true:=by
    unfold YbV;rw[<-Yq hi];have:=mt (Yj5 (s[i]'hi) 10 Zo).2 (fun e=>hc e);simp at this⊢; omega
   have hs:Ym s i=Ym s (i+1):=YD hi hb;rw[if_neg (by simpa using hc),hs];by_cases hm:Lib.indexByte (s.data.toList.drop (i+1)) 10= -1
   ·rw[hm]; simp only[beq_self_eq_true,if_true];exact⟨fun _ _=>ih.1 Zo Zo,fun h=>by omega⟩
   ·rw[if_neg (by simpa using hm)];exact⟨fun h=>by omega,fun _=>by rw[ih.2 Zo]; omega⟩
def comN (s:ByteArray):Nat->Nat->Option Nat
 |0,_=>none
 |n+1,i=>if i+1<s.size then (if bt s i=42/\bt s (i+1)=47 then some (i+2) else comN s n (i+1)) else none
def Yaj (s:ByteArray)(i:Nat):Option Nat:=comN s (s.size - i) i
theorem YhE (s:ByteArray):∀(n i:Nat),s.size - i=n->(Lib.index (s.data.toList.drop i) [42,47]<0->comN s n i=none)/\(0<=Lib.index (s.data.toList.drop i) [42,47]->comN s n i=some (i+(Lib.index (s.data.toList.drop i) [42,47]).toNat+2)/\i+(Lib.index (s.data.toList.drop i) [42,47]).toNat+2<=s.size)
 |
  0,i,h=>by
  rw[drop_end Zo];simp[Lib.index,comN]
 |
  n+1,i,h=>by
  have hi:i<s.size:=Zo;have ih:=YhE s n (i+1) Zo;have hge:=Lib.index_ge (s.data.toList.drop (i+1)) [42,47];rw[drop_cons hi];simp only[Lib.index];by_cases h1:i+1<s.size
  ·have hp:List.isPrefixOf [42,47] ((s[i]'hi)::s.data.toList.drop (i+1))=decide (bt s i=42/\bt s (i+1)=47):=by
    rw[drop_cons h1,<-Yq hi,<-Yq h1];have e1:=Yj5 (s[i]'hi) 42 Zo;have e2:=Yj5 (s[i+1]'h1) 47 Zo;rw[Bool.eq_iff_iff];simp only[List.isPrefixOf,Bool.and_true,Bool.and_eq_true,beq_iff_eq,decide_eq_true_eq];exact and_congr (eq_comm.trans e1) (eq_comm.trans e2)
   rw[hp];by_cases hb:bt s i=42/\bt s (i+1)=47
   ·rw[decide_eq_true hb];simp only[if_true,comN,if_pos h1,if_pos hb];exact⟨fun h=>by omega,fun _=>⟨by simp,by simp; omega⟩⟩
   ·rw[decide_eq_false hb];simp only[Bool.false_eq_true,if_false,comN,if_pos h1,if_neg hb];by_cases hm:Lib.index (s.data.toList.drop (i+1)) [42,47]= -1
    ·rw[hm]; simp only[beq_self_eq_true,if_true];exact⟨fun _=>ih.1 Zo,fun h=>by omega⟩
    ·rw[if_neg (by simpa using hm)];refine⟨fun h=>by omega,fun _=>?_⟩;obtain⟨a,b⟩:=ih.2 Zo;rw[a];exact⟨by congr 1; omega,by omega⟩
  ·rw[drop_end Zo];have hp:List.isPrefixOf [42,47] [s[i]'hi]=false:=by simp[List.isPrefixOf]
   rw[hp];simp[Lib.index,comN,h1]
inductive YdN where
 |err (at_:Nat)
 |ok (at_:Nat) (sp:List (Nat×Nat))
def Ji (s:ByteArray)(i:Nat):Bool:=(bt s i==42)&&(decide (i=0)||(bt s (i - 1)==10))
def isOpen (s:ByteArray)(i:Nat):Bool:=(bt s i==47)&&(bt s (i+1)==42)
def Y7 (s:ByteArray):Nat->Nat->List (Nat×Nat)->YdN
 |0,i,sp=>.ok i sp
 |
  n+1,i,sp=>
  if i<s.size then
   if cls (bt s i).toNat=1 then Y7 s n (i+1) sp
   else if Ji s i=true then Y7 s n (Ym s i) (sp++[(i,Ym s i)])
   else if isOpen s i=true then
    match Yaj s (i+2) with
    |none=>.err i
    |some e=>Y7 s n e (sp++[(i,e)])
   else .ok i sp
  else .ok i sp
def bu (s:ByteArray)(i:Nat):UInt8:=if h:i<s.size then s[i] else 0
theorem YhF (s:ByteArray)(i:Nat):bt s i=(bu s i).toNat:=by
 unfold bt bu; split<;>rfl
def escF (mark c:Int):Option Int:=
 if mark=34 then (if c=92 then some 92 else if c=34 then some 34 else none)
 else (if c=92 then some 92 else if c=39 then some 39 else if c=110 then some 10 else if c=116 then some 9 else none)
def hex2 (h l:Int):UInt8:=(16*h+l).toNat.toUInt8
inductive QuoR where
 |bad
 |ok (out:List UInt8) (fin:Nat)
def quoN (s:ByteArray)(mark:Int):Nat->Nat->List UInt8->QuoR
 |0,_,_=>.bad
 |
  n+1,i,out=>
  if bt s i=mark then .ok out (i+1)
  else if s.size<=i\/bt s i<32\/126<bt s i then .bad
  else if bt s i≠92 then quoN s mark n (i+1) (out++[bu s i])
  else match escF mark (bt s (i+1)) with
   |some m=>quoN s mark n (i+2) (out++[m.toNat.toUInt8])
   |
    none=>
    if mark=34\/bt s (i+1)≠120 then .bad
    else match hexv (bt s (i+2)),hexv (bt s (i+3)) with
     |some h,some l=>quoN s mark n (i+4) (out++[hex2 h l])
     |_,_=>.bad
section
variable {s:ByteArray}{mark:Int}{n i:Nat}{out:List UInt8}{R:QuoR}
theorem Yh3 (h:quoN s mark (n+1) i out=R)(hm:bt s i=mark):R= .ok out (i+1):=by
 rw[quoN,if_pos hm] at h; exact h.symm
theorem YcT (h:quoN s mark (n+1) i out=R)(hm:¬bt s i=mark)(hb:s.size<=i\/bt s i<32\/126<bt s i):R= .bad:=by
 rw[quoN,if_neg hm,if_pos hb] at h; exact h.symm
theorem YeI (h:quoN s mark (n+1) i out=R)(hm:¬bt s i=mark)(hb:¬(s.size<=i\/bt s i<32\/126<bt s i))(h92:¬bt s i=92):quoN s mark n (i+1) (out++[bu s i])=R:=by
 rwa [quoN,if_neg hm,if_neg hb,if_pos h92] at h
theorem YdG {m:Int}(h:quoN s mark (n+1) i out=R)(hm:¬bt s i=mark)(hb:¬(s.size<=i\/bt s i<32\/126<bt s i))(h92:bt s i=92)(he:escF mark (bt s (i+1))=some m):
 quoN s mark n (i+2) (out++[m.toNat.toUInt8])=R:=by
 rwa [quoN,if_neg hm,if_neg hb,if_neg (by simp[h92]),he] at h
theorem JX (h:quoN s mark (n+1) i out=R)(hm:¬bt s i=mark)(hb:¬(s.size<=i\/bt s i<32\/126<bt s i))(h92:bt s i=92)(he:escF mark (bt s (i+1))=none)
 (hx:mark=34\/¬bt s (i+1)=120\/hexv (bt s (i+2))=none\/hexv (bt s (i+3))=none):R= .bad:=by
 rw[quoN,if_neg hm,if_neg hb,if_neg (by simp[h92]),he] at h;dsimp only at h;split at h
 ·exact h.symm
 ·rename_i hn
  rcases hx with hx | hx | hx | hx
  ·exact absurd (.inl hx) hn
  ·exact absurd (.inr hx) hn
  ·rw[hx] at h; exact h.symm
  ·rw[hx] at h;generalize hexv (bt s (i+2))=q at h;cases q<;>exact h.symm
theorem YkU {a b:Int}(h:quoN s mark (n+1) i out=R)(hm:¬bt s i=mark)(hb:¬(s.size<=i\/bt s i<32\/126<bt s i))(h92:bt s i=92)(he:escF mark (bt s (i+1))=none)
 (h34:¬mark=34)(h120:bt s (i+1)=120)(ha:hexv (bt s (i+2))=some a)(hb2:hexv (bt s (i+3))=some b):quoN s mark n (i+4) (out++[hex2 a b])=R:=by
 rw[quoN,if_neg hm,if_neg hb,if_neg (by simp[h92]),he] at h;dsimp only at h;rwa [if_neg (by simp[h34,h120]),ha,hb2] at h
end
theorem Ygu {c v:Int}(h:hexv c=some v):0<=v/\v<=15:=by
 unfold hexv at h;repeat' split at h
 all_goals first | (cases h; omega) | cases h
theorem YnQ {c v:Int}(h:hexv c=some v):¬c=0:=by
 unfold hexv at h;repeat' split at h
 all_goals first | omega | cases h
theorem YnW {mark c m:Int}(h:escF mark c=some m):¬c=0/\0<=m/\m<=92:=by
 unfold escF at h;repeat' split at h
 all_goals first | (cases h; omega) | cases h
def YdL:ByteArray:=⟨#[48,49,50,51,52,53,54,55,56,57]⟩
def Yfg:ByteArray:=⟨#[45]⟩
def numD (s:ByteArray):ByteArray:=⟨(Lib.trimPrefix s.data.toList Yfg.data.toList).toArray⟩
def Yjb (d:ByteArray):ByteArray:=⟨(Lib.trimS d.data.toList YdL.data.toList).toArray⟩
def JY (s:ByteArray):Bool:=
 !(numD s).toList.isEmpty&&decide ((numD s).size<=500)&&(Yjb (numD s)).toList.isEmpty&&(bt (numD s) 0 != 48||s.toList==[48])
section
variable {s d:ByteArray}{R:Bool}
theorem Yk3 (h:JY s=R)(hd:numD s=d)(hx:d.toList=[]\/¬d.size<=500\/¬(Yjb d).toList=[]):R=false:=by
 subst hd h;unfold JY;rcases hx with hx | hx | hx<;>simp[hx]
theorem Yk2 (h:JY s=R)(hd:numD s=d)(h1:¬d.toList=[])(h2:d.size<=500)(h3:(Yjb d).toList=[]):R=(bt d 0 != 48||s.toList==[48]):=by
 subst hd h;unfold JY;simp[h1,h2,h3]
end
inductive TokR where
 |bad (code:Int) (at_:Nat)
 |ok (kind:Int) (text:ByteArray) (fin:Nat)
def digE (s:ByteArray)(i:Nat):Nat:=Yo s (fun c=>cls c.toNat==3) i
def YeM (s:ByteArray)(fin:Nat):Bool:=
 decide (fin<s.size)&&(cls (bt s fin).toNat==2||cls (bt s fin).toNat==3||bt s fin==45||bt s fin==95||bt s fin==46)
def near (s:ByteArray)(kind:Int)(fr fin:Nat):TokR:=if YeM s fin=true then .bad 44 fin else .ok kind (s.extract fr fin) fin
def quoR (mark:Int)(fr:Nat):QuoR->TokR
 |.bad=>.bad 41 fr
 |.ok out fin=>if mark=39 then .ok 1 ⟨out.toArray⟩ fin else if out.length<1\/60<out.length then .bad 43 fr else .ok 2 ⟨out.toArray⟩ fin
def tokN (s:ByteArray)(i:Nat):TokR:=
 if bt s i=39\/bt s i=34 then quoR (bt s i) i (quoN s (bt s i) (s.size - i) (i+1) [])
 else if cls (bt s i).toNat=4 then .ok 6 (s.extract i (i+1)) (i+1)
 else if steB (bt s i)=true/\bt s (i+1)=46 then
  if Yo s (inner JI) (i+2)<i+3\/i+42<Yo s (inner JI) (i+2) then .bad 43 i else near s 5 i (Yo s (inner JI) (i+2))
 else if cls (bt s i).toNat=2 then
  if i+60<Yo s (inner Yj) i then .bad 43 i else near s 3 i (Yo s (inner Yj) i)
 else if cls (bt s i).toNat=3\/(bt s i=45/\cls (bt s (i+1)).toNat=3) then
  if JY (s.extract i (digE s (i+1)))=true then near s 4 i (digE s (i+1)) else .bad 43 i
 else if bt s i=36 then
  if YbU (s.extract i (if cls (bt s (i+1)).toNat=2 then Yo s (inner Yj) (i+1) else i+1))=true then
   near s 7 i (if cls (bt s (i+1)).toNat=2 then Yo s (inner Yj) (i+1) else i+1)
  else .bad 45 i
 else .bad 40 i
section
variable {s:ByteArray}{i:Nat}{R:TokR}
theorem Yej (h:tokN s i=R)(hq:bt s i=39\/bt s i=34):quoR (bt s i) i (quoN s (bt s i) (s.size - i) (i+1) [])=R:=by
 rwa [tokN,if_pos hq] at h
theorem Yf8 (h:tokN s i=R)(hq:¬(bt s i=39\/bt s i=34))(h4:cls (bt s i).toNat=4):R= .ok 6 (s.extract i (i+1)) (i+1):=by
 rw[tokN,if_neg hq,if_pos h4] at h; exact h.symm
theorem Yka (h:tokN s i=R)(hq:¬(bt s i=39\/bt s i=34))(h4:¬cls (bt s i).toNat=4)(hv:steB (bt s i)=true/\bt s (i+1)=46):
 (if Yo s (inner JI) (i+2)<i+3\/i+42<Yo s (inner JI) (i+2) then .bad 43 i else near s 5 i (Yo s (inner JI) (i+2)))=R:=by
 rwa [tokN,if_neg hq,if_neg h4,if_pos hv] at h
theorem Yf9 (h:tokN s i=R)(hq:¬(bt s i=39\/bt s i=34))(hv:¬(steB (bt s i)=true/\bt s (i+1)=46))(h2:cls (bt s i).toNat=2):
 (if i+60<Yo s (inner Yj) i then .bad 43 i else near s 3 i (Yo s (inner Yj) i))=R:=by
 rwa [tokN,if_neg hq,if_neg (by rw[h2]; decide),if_neg hv,if_pos h2] at h
theorem YhP (h:tokN s i=R)(hq:¬(bt s i=39\/bt s i=34))(h4:¬cls (bt s i).toNat=4)(hv:¬(steB (bt s i)=true/\bt s (i+1)=46))(h2:¬cls (bt s i).toNat=2)
 (h3:cls (bt s i).toNat=3\/(bt s i=45/\cls (bt s (i+1)).toNat=3)):
 (if JY (s.extract i (digE s (i+1)))=true then near s 4 i (digE s (i+1)) else .bad 43 i)=R:=by
 rwa [tokN,if_neg hq,if_neg h4,if_neg hv,if_neg h2,if_pos h3] at h
theorem Yf7 (h:tokN s i=R)(h36:bt s i=36):
 (if YbU (s.extract i (if cls (bt s (i+1)).toNat=2 then Yo s (inner Yj) (i+1) else i+1))=true then
   near s 7 i (if cls (bt s (i+1)).toNat=2 then Yo s (inner Yj) (i+1) else i+1) else .bad 45 i)=R:=by
 have e:cls (36:Int).toNat=0:=Zd;have e2:steB 36=false:=Zd;rwa [tokN,if_neg (by rw[h36]; decide),if_neg (by rw[h36,e]; decide),if_neg (by rw[h36,e2]; simp),if_neg (by rw[h36,e]; decide),if_neg (by rw[h36,e]; simp),if_pos h36] at h
theorem YcZ (h:tokN s i=R)(hq:¬(bt s i=39\/bt s i=34))(h4:¬cls (bt s i).toNat=4)(hv:¬(steB (bt s i)=true/\bt s (i+1)=46))(h2:¬cls (bt s i).toNat=2)
 (h3:¬(cls (bt s i).toNat=3\/(bt s i=45/\cls (bt s (i+1)).toNat=3)))(h36:¬bt s i=36):R= .bad 40 i:=by
 rw[tokN,if_neg hq,if_neg h4,if_neg hv,if_neg h2,if_neg h3,if_neg h36] at h; exact h.symm
theorem YmH {k:Int}{fr fin:Nat}(h:near s k fr fin=R)(hn:YeM s fin=true):R= .bad 44 fin:=by rw[near,if_pos hn] at h; exact h.symm
theorem YnE {k:Int}{fr fin:Nat}(h:near s k fr fin=R)(hn:YeM s fin=false):R= .ok k (s.extract fr fin) fin:=by rw[near,if_neg (by simp[hn])] at h; exact h.symm
end
structure Tk where
 kind:Int
 text:ByteArray
 at_:Nat
inductive YdZ where
 |bad (code:Int) (at_:Nat)
 |ok (l:List Tk) (sp:List (Nat×Nat))
def Yau (s:ByteArray):Nat->Nat->List (Nat×Nat)->List Tk->YdZ
 |0,_,sp,acc=>.ok acc sp
 |
  n+1,i,sp,acc=>match Y7 s (s.size+1) i sp with
  |.err x=>.bad 42 x
  |
   .ok j sp'=>if j=s.size then .ok acc sp' else match tokN s j with
   |.bad c x=>.bad c x
   |.ok kind text fin=>Yau s n fin sp' (acc++[⟨kind,text,j⟩])
def Yax (s:ByteArray):YdZ:=if 40000<s.size then .bad 7 0 else Yau s (s.size+1) 0 [] []
section
variable {s:ByteArray}{n i j x fin:Nat}{sp sp':List (Nat×Nat)}{acc:List Tk}{R:YdZ}{c kind:Int}{text:ByteArray}
theorem Yiw (h:Yau s (n+1) i sp acc=R)(hs:Y7 s (s.size+1) i sp= .err x):R= .bad 42 x:=by
 rw[Yau,hs] at h; exact h.symm
theorem Yiv (h:Yau s (n+1) i sp acc=R)(hs:Y7 s (s.size+1) i sp= .ok j sp')(hj:j=s.size):R= .ok acc sp':=by
 rw[Yau,hs] at h; dsimp only at h; rw[if_pos hj] at h; exact h.symm
theorem Yix (h:Yau s (n+1) i sp acc=R)(hs:Y7 s (s.size+1) i sp= .ok j sp')(hj:¬j=s.size)(ht:tokN s j= .bad c x):R= .bad c x:=by
 rw[Yau,hs] at h; dsimp only at h; rw[if_neg hj,ht] at h; exact h.symm
theorem YgM (h:Yau s (n+1) i sp acc=R)(hs:Y7 s (s.size+1) i sp= .ok j sp')(hj:¬j=s.size)(ht:tokN s j= .ok kind text fin):Yau s n fin sp' (acc++[⟨kind,text,j⟩])=R:=by
 rw[Yau,hs] at h; dsimp only at h; rw[if_neg hj,ht] at h; exact h
end
theorem Yih (s:ByteArray):∀(n i e:Nat),comN s n i=some e->i<e/\e<=s.size
 |0,i,e,h=>by simp[comN] at h
 |
  n+1,i,e,h=>by
  unfold comN at h;split at h
  ·split at h
   ·cases h; omega
   ·have:=Yih s n (i+1) e h; omega
  ·cases h
theorem YcO (s:ByteArray):∀(n i:Nat) (sp:List (Nat×Nat)) (j:Nat) (sp':List (Nat×Nat)),i<=s.size->Y7 s n i sp= .ok j sp'->i<=j/\j<=s.size
 |0,i,sp,j,sp',h0,h=>by simp only[Y7,YdN.ok.injEq] at h; omega
 |
  n+1,i,sp,j,sp',h0,h=>by
  unfold Y7 at h;split at h
  ·split at h
   ·have:=YcO s n (i+1) _ j sp' Zo h; omega
   ·split at h
    ·have hl:=YI s YbV i Zo;have:=YcO s n _ _ j sp' (by unfold Ym; omega) h;unfold Ym at this; omega
    ·split at h
     ·split at h
      ·cases h
      ·rename_i e he
       have hl:=Yih s _ _ _ he;have:=YcO s n _ _ j sp' Zo h; omega
     ·cases h; omega
  ·cases h; omega
theorem YfG (s:ByteArray)(mark:Int)(hm:¬mark=0):∀(n i:Nat) (out out':List UInt8) (fin:Nat),quoN s mark n i out= .ok out' fin->i<fin/\fin<=s.size
 |0,i,out,out',fin,h=>by simp[quoN] at h
 |
  n+1,i,out,out',fin,h=>by
  have hin:∀k,¬bt s k=0->k<s.size:=fun k hk=>Nat.lt_of_not_le fun q=>hk (JU q);unfold quoN at h;split at h
  ·rename_i hb
   have:=hin i (by rw[hb]; exact hm);cases h; omega
  ·split at h
   ·cases h
   ·split at h
    ·have:=YfG s mark hm n _ _ _ _ h; omega
    ·split at h
     ·have:=YfG s mark hm n _ _ _ _ h; omega
     ·split at h
      ·cases h
      ·split at h
       ·have:=YfG s mark hm n _ _ _ _ h; omega
       ·cases h
theorem Yd8 {s:ByteArray}{k kind:Int}{fr fin f:Nat}{text:ByteArray}(h:near s k fr fin= .ok kind text f):f=fin/\kind=k/\text=s.extract fr fin:=by
 unfold near at h; split at h
 ·cases h
 ·cases h; exact⟨rfl,rfl,rfl⟩
theorem Yiy {s:ByteArray}{i fin:Nat}{kind:Int}{text:ByteArray}(hi:i<s.size)(h:tokN s i= .ok kind text fin):i<fin/\fin<=s.size:=by
 unfold tokN at h;split at h
 ·rename_i hq
  unfold quoR at h;split at h
  ·cases h
  ·rename_i out f hqq
   have hm:¬bt s i=0:=by rcases hq with q | q<;>omega
   have:=YfG s _ hm _ _ _ _ _ hqq;split at h
   ·cases h; omega
   ·split at h
    ·cases h
    ·cases h; omega
 ·split at h
  ·cases h; omega
  ·split at h
   ·split at h
    ·cases h
    ·rename_i hst hlen
     obtain⟨rfl,_,_⟩:=Yd8 h;have h1:i+1<s.size:=Nat.lt_of_not_le fun q=>by rw[JU q] at hst; exact absurd hst.2 Zd
     have:=YI s (inner JI) (i+2) Zo;omega
   ·split at h
    ·split at h
     ·cases h
     ·rename_i h2 hlen
      obtain⟨rfl,_,_⟩:=Yd8 h;have:=YI s (inner Yj) (i+1) Zo;rw[YD hi (by unfold inner; simp[h2])];omega
    ·split at h
     ·split at h
      ·obtain⟨rfl,_,_⟩:=Yd8 h;have:=YI s (fun c=>cls c.toNat==3) (i+1) Zo;unfold digE; omega
      ·cases h
     ·split at h
      ·generalize he:(if cls (bt s (i+1)).toNat=2 then Yo s (inner Yj) (i+1) else i+1)=e at h;have he2:i<e/\e<=s.size:=by
        subst he;have:=YI s (inner Yj) (i+1) Zo;split<;>omega
       split at h
       ·obtain⟨rfl,_,_⟩:=Yd8 h; exact he2
       ·cases h
      ·cases h
section
variable {s t:ByteArray}{p:Nat}
theorem Ymd {s:ByteArray}{i:Nat}(hi:i<s.size)(hst:Ji s i=true):i<Ym s i/\Ym s i<=s.size:=by
 have hb:YbV (bt s i)=true:=by
  unfold Ji at hst; simp only[Bool.and_eq_true,beq_iff_eq] at hst;unfold YbV; rw[hst.1]; rfl
 unfold Ym;rw[YD hi hb];have:=YI s YbV (i+1) Zo;omega
end
section
variable {s t:ByteArray}{a fin:Nat}
end
inductive Ts where
 |nil
 |cons (kind:Int) (text:ByteArray) (kids rest:Ts)
def Ts.len:Ts->Nat
 |.nil=>0
 |.cons _ _ _ rest=>rest.len+1
def Ts.app:Ts->Ts->Ts
 |.nil,b=>b
 |.cons k t kids rest,b=>.cons k t kids (rest.app b)
def Ts.nodes:Ts->Nat
 |.nil=>0
 |.cons _ _ kids rest=>kids.nodes+rest.nodes+1
def Ts.deep:Ts->Nat
 |.nil=>0
 |.cons k _ kids rest=>max (if k=4\/k=8\/kids.len≠0 then kids.deep+1 else 0) rest.deep
theorem Ts.app_nil:∀l:Ts,l.app .nil=l
 |.nil=>rfl
 |.cons _ _ _ rest=>by rw[Ts.app,Ts.app_nil rest]
theorem Ts.len_app:∀a b:Ts,(a.app b).len=a.len+b.len
 |.nil,b=>by simp[Ts.app,Ts.len]
 |.cons _ _ _ rest,b=>by rw[Ts.app,Ts.len,Ts.len,Ts.len_app rest]; omega
theorem Ts.nodes_app:∀a b:Ts,(a.app b).nodes=a.nodes+b.nodes
 |.nil,b=>by simp[Ts.app,Ts.nodes]
 |.cons _ _ _ rest,b=>by rw[Ts.app,Ts.nodes,Ts.nodes,Ts.nodes_app rest]; omega
theorem Ts.deep_app:∀a b:Ts,(a.app b).deep=max a.deep b.deep
 |.nil,b=>by simp[Ts.app,Ts.deep]
 |.cons _ _ _ rest,b=>by rw[Ts.app,Ts.deep,Ts.deep,Ts.deep_app rest]; omega
theorem Ts.len_le:∀a:Ts,a.len<=a.nodes
 |.nil=>Nat.le_refl _
 |.cons _ _ kids rest=>by rw[Ts.len,Ts.nodes]; have:=Ts.len_le rest; omega
theorem Ts.len_zero:∀a:Ts,a.len=0↔a= .nil
 |.nil=>by simp[Ts.len]
 |.cons _ _ _ _=>by simp[Ts.len]
def YA (s:ByteArray):Nat->Nat->Ts
 |0,_=>.nil
 |n+1,i=>.cons 1 (s.extract i (i+1)) .nil (YA s n (i+1))
def YaI (s:ByteArray):Ts:=YA s s.size 0
def J0 (c:Int):Int:=if c=115 then 5 else if c=116 then 6 else 7
def varT (s:ByteArray)(rest:Ts):Ts:=if Y2 s=true then .cons (J0 (bt s 0)) (s.extract 2 s.size) .nil rest else .cons 0 ⟨#[]⟩ .nil rest
inductive Rd (α:Type) where
 |ok (x:α) (i:Nat)
 |bad (at_:Nat) (code:Int)
def Rd.bind {α β:Type}:Rd α->(α->Nat->Rd β)->Rd β
 |.ok x i,f=>f x i
 |.bad a c,_=>.bad a c
def Y6 (L:List Tk)(en i:Nat):Nat:=match L[i]? with
 |none=>en
 |some t=>t.at_
def YQ {α:Type}(L:List Tk)(en i:Nat)(code:Int):Rd α:=.bad (Y6 L en i) (if i<L.length\/code=5 then code else 51)
def isN (L:List Tk)(i:Nat)(kind:Int)(text:ByteArray):Bool:=match L[i]? with
 |none=>false
 |some t=>t.kind==kind&&decide (t.text=text)
def Yh (L:List Tk)(en i:Nat)(sign:ByteArray):Rd Unit:=if isN L i 6 sign=true then .ok () (i+1) else YQ L en i 50
def Yz (L:List Tk)(en i:Nat):Rd ByteArray:=match L[i]? with
 |none=>YQ L en i 50
 |some t=>if t.kind=3/\t.text.size<=40 then .ok t.text (i+1) else YQ L en i 50
def Ya5:ByteArray:=⟨#[40]⟩
def YcF:ByteArray:=⟨#[41]⟩
def JL:ByteArray:=⟨#[60]⟩
def Yeu:ByteArray:=⟨#[62]⟩
def Y1:ByteArray:=⟨#[123]⟩
def sEnd:ByteArray:=⟨#[125]⟩
def sEq:ByteArray:=⟨#[61]⟩
def JQ:ByteArray:=⟨#[44]⟩
def YaR:ByteArray:=⟨#[58]⟩
def JA:ByteArray:=⟨#[59]⟩
def Ya0:ByteArray:=⟨#[36,69,78,84,82,89]⟩
def YaG:ByteArray:=⟨#[36,69,88,84,69,82,78]⟩
def Yb (L:List Tk)(en:Nat)(pat:Bool):Nat->Nat->Nat->Ts->Rd Ts
 |0,_,i,acc=>.ok acc i
 |
  n+1,deep,i,acc=>match L[i]? with
  |none=>.ok acc i
  |
   some t=>
   if t.kind=1 then Yb L en pat n deep (i+1) (acc.app (YaI t.text))
   else if t.kind=2\/t.kind=3 then Yb L en pat n deep (i+1) (acc.app (.cons 2 t.text .nil .nil))
   else if t.kind=4 then Yb L en pat n deep (i+1) (acc.app (.cons 3 t.text .nil .nil))
   else if t.kind=5 then Yb L en pat n deep (i+1) (acc.app (varT t.text .nil))
   else if t.kind=6/\t.text=Ya5 then
    if 100<=deep then .bad t.at_ 54
    else (Yb L en pat n (deep+1) (i+1) .nil).bind fun kids j=>(Yh L en j YcF).bind fun _ k=>Yb L en pat n deep k (acc.app (.cons 4 ⟨#[]⟩ kids .nil))
   else if t.kind=6/\t.text=JL then
    if pat=true then .bad t.at_ 52
    else if 100<=deep then .bad t.at_ 54
    else (Yz L en (i+1)).bind fun nm m=>(Yb L en pat n (deep+1) m .nil).bind fun kids j=>(Yh L en j Yeu).bind fun _ k=>Yb L en pat n deep k (acc.app (.cons 8 nm kids .nil))
   else .ok acc i
def YK (L:List Tk)(en:Nat)(pat:Bool)(i:Nat):Rd Ts:=
 (Yb L en pat (L.length+1) 0 i .nil).bind fun l j=>if 4000<l.nodes then YQ L en j 5 else .ok l j
inductive Ss where
 |nil
 |cons (left:Ts) (tests:List (Ts×Ts)) (right subject:Ts) (block rest:Ss)
def Ss.app:Ss->Ss->Ss
 |.nil,b=>b
 |.cons l t r s k rest,b=>.cons l t r s k (rest.app b)
def Ss.len:Ss->Nat
 |.nil=>0
 |.cons _ _ _ _ _ rest=>rest.len+1
theorem Ss.len_app:∀a b:Ss,(a.app b).len=a.len+b.len
 |.nil,b=>by simp[Ss.app,Ss.len]
 |.cons _ _ _ _ _ rest,b=>by rw[Ss.app,Ss.len,Ss.len,Ss.len_app rest]; omega
mutual
def JV (L:List Tk)(en:Nat):Nat->Nat->Nat->Ts->List (Ts×Ts)->Rd Ss
 |0,_,i,_,_=>.bad i 0
 |
  n+1,blocks,i,left,tests=>
  if isN L i 6 JQ=true then
   (YK L en false (i+1)).bind fun e j=>(Yh L en j YaR).bind fun _ k=>
     if isN L k 6 Y1=true then
      if 6<=blocks then YQ L en k 54
      else (YZ L en n (blocks+1) (k+1)).bind fun b m=>.ok (.cons left tests .nil e b .nil) m
     else (YK L en true k).bind fun p m=>JV L en n blocks m left (tests++[(e,p)])
  else (Yh L en i sEq).bind fun _ j=>(YK L en false j).bind fun r k=>.ok (.cons left tests r .nil .nil .nil) k
def YZ (L:List Tk)(en:Nat):Nat->Nat->Nat->Rd Ss
 |0,_,i=>.bad i 0
 |n+1,blocks,i=>if isN L i 6 sEnd=true\/isN L i 6 JA=true then YQ L en i 53 else YaF L en n blocks i .nil
def YaF (L:List Tk)(en:Nat):Nat->Nat->Nat->Ss->Rd Ss
 |0,_,i,_=>.bad i 0
 |
  n+1,blocks,i,acc=>
  (YK L en true i).bind fun left j=>(JV L en n blocks j left []).bind fun s k=>
    if isN L k 6 JA=true then
     if isN L (k+1) 6 sEnd=true then .ok (acc.app s) (k+2) else YaF L en n blocks (k+1) (acc.app s)
    else if isN L k 6 sEnd=true then .ok (acc.app s) (k+1) else YQ L en k 50
end
structure Fn where
 name:ByteArray
 entry:Bool
 sents:Ss
structure Md where
 externs:List ByteArray
 funcs:List Fn
def extN (L:List Tk)(en:Nat):Nat->Nat->List ByteArray->Rd (List ByteArray)
 |0,i,_=>.bad i 0
 |n+1,i,acc=>(Yz L en i).bind fun s j=>if isN L j 6 JQ=true then extN L en n (j+1) (acc++[s]) else .ok (acc++[s]) j
def YaA (L:List Tk)(en i:Nat)(m:Md):Rd Md:=
 if isN L i 7 YaG=true then (extN L en (L.length+1) (i+1) m.externs).bind fun l j=>(Yh L en j JA).bind fun _ k=>.ok ⟨l,m.funcs⟩ k
 else (Yz L en (if isN L i 7 Ya0=true then i+1 else i)).bind fun nm j=>(Yh L en j Y1).bind fun _ k=>
  (YZ L en (L.length+4) 0 k).bind fun b q=>.ok ⟨m.externs,m.funcs++[⟨nm,isN L i 7 Ya0,b⟩]⟩ q
def Jm (L:List Tk)(en:Nat):Nat->Nat->Md->Rd Md
 |0,i,_=>.bad i 0
 |n+1,i,m=>if i<L.length then (YaA L en i m).bind fun m' j=>Jm L en n j m' else .ok m i
def readB (s:ByteArray):Rd Md:=match Yax s with
 |.bad c x=>.bad x c
 |.ok l _=>Jm l s.size (l.length+1) 0 ⟨[],[]⟩
def YbS (s:ByteArray):Rd Ss:=match Yax s with
 |.bad c x=>.bad x c
 |.ok l _=>(YK l s.size true 0).bind fun left j=>(JV l s.size (l.length+4) 0 j left []).bind fun x k=>if k<l.length then YQ l s.size k 50 else .ok x k
theorem Rd.bind_inv {α β:Type}{r:Rd α}{f:α->Nat->Rd β}{y:β}{k:Nat}(h:r.bind f= .ok y k):∃x i,r= .ok x i/\f x i= .ok y k:=by
 cases r with
 |ok x i=>exact⟨x,i,rfl,h⟩
 |bad a c=>cases h
theorem YG {L:List Tk}{en i:Nat}{s:ByteArray}{u:Unit}{k:Nat}(h:Yh L en i s= .ok u k):isN L i 6 s=true/\k=i+1:=by
 unfold Yh YQ at h;split at h
 ·rename_i hq; cases h; exact⟨hq,rfl⟩
 ·cases h
theorem JD {L:List Tk}{en i:Nat}{s:ByteArray}{k:Nat}(h:Yz L en i= .ok s k):k=i+1:=by
 unfold Yz YQ at h;split at h
 ·cases h
 ·split at h
  ·cases h; rfl
  ·cases h
theorem JP {L:List Tk}{en:Nat}{pat:Bool}:∀(n deep i:Nat) (acc l:Ts) (j:Nat),Yb L en pat n deep i acc= .ok l j->i<=j
 |0,_,_,_,_,_,h=>by cases h; exact Nat.le_refl _
 |
  n+1,deep,i,acc,l,j,h=>by
  unfold Yb at h;split at h
  ·cases h; exact Nat.le_refl _
  ·split at h
   ·have:=JP n _ _ _ _ _ h; omega
   ·split at h
    ·have:=JP n _ _ _ _ _ h; omega
    ·split at h
     ·have:=JP n _ _ _ _ _ h; omega
     ·split at h
      ·have:=JP n _ _ _ _ _ h; omega
      ·split at h
       ·split at h
        ·cases h
        ·obtain⟨kids,j1,h1,h⟩:=Rd.bind_inv h;obtain⟨_,k,h2,h⟩:=Rd.bind_inv h;have e1:=JP n _ _ _ _ _ h1;have e2:=(YG h2).2;have e3:=JP n _ _ _ _ _ h;omega
       ·split at h
        ·split at h
         ·cases h
         ·split at h
          ·cases h
          ·obtain⟨nm,m,h0,h⟩:=Rd.bind_inv h;obtain⟨kids,j1,h1,h⟩:=Rd.bind_inv h;obtain⟨_,k,h2,h⟩:=Rd.bind_inv h;have e0:=JD h0;have e1:=JP n _ _ _ _ _ h1;have e2:=(YG h2).2;have e3:=JP n _ _ _ _ _ h;omega
        ·cases h; exact Nat.le_refl _
def Jd (L:List Tk)(en:Nat)(pat:Bool)(n:Nat)(call:Bool)(deep i:Nat):Rd (Int×ByteArray×Ts):=
 if (call&&pat)=true then YQ L en i 52
 else if 100<=deep then YQ L en i 54
 else if call=true then (Yz L en (i+1)).bind fun nm m=>(Yb L en pat n (deep+1) m .nil).bind fun kids j=>(Yh L en j Yeu).bind fun _ k=>.ok (8,nm,kids) k
 else (Yb L en pat n (deep+1) (i+1) .nil).bind fun kids j=>(Yh L en j YcF).bind fun _ k=>.ok (4,⟨#[]⟩,kids) k
theorem YiS {L:List Tk}{en:Nat}{pat:Bool}{n:Nat}{call:Bool}{deep i:Nat}{x:Int×ByteArray×Ts}{k:Nat}(h:Jd L en pat n call deep i= .ok x k):i<k:=by
 unfold Jd YQ at h;split at h
 ·cases h
 ·split at h
  ·cases h
  ·split at h
   ·obtain⟨nm,m,h0,h⟩:=Rd.bind_inv h;obtain⟨kids,j1,h1,h⟩:=Rd.bind_inv h;obtain⟨_,k,h2,h⟩:=Rd.bind_inv h;cases h;have e0:=JD h0;have e1:=JP n _ _ _ _ _ h1;have e2:=(YG h2).2;omega
   ·obtain⟨kids,j1,h1,h⟩:=Rd.bind_inv h;obtain⟨_,k,h2,h⟩:=Rd.bind_inv h;cases h;have e1:=JP n _ _ _ _ _ h1;have e2:=(YG h2).2;omega
theorem Rd.bind_assoc {α β γ:Type}(r:Rd α)(f:α->Nat->Rd β)(g:β->Nat->Rd γ):(r.bind f).bind g=r.bind fun x i=>(f x i).bind g:=by cases r<;>rfl
section
variable {L:List Tk}{en:Nat}{pat:Bool}{n deep i:Nat}{acc:Ts}{t:Tk}
theorem YgS (h:L[i]? =none):Yb L en pat (n+1) deep i acc= .ok acc i:=by unfold Yb; rw[h]
theorem Yen (h:L[i]? =some t)(hk:t.kind=1):Yb L en pat (n+1) deep i acc=Yb L en pat n deep (i+1) (acc.app (YaI t.text)):=by
 conv=>lhs; unfold Yb
 rw[h]; dsimp only; rw[if_pos hk]
theorem Yck (h:L[i]? =some t)(hk:t.kind=2\/t.kind=3):Yb L en pat (n+1) deep i acc=Yb L en pat n deep (i+1) (acc.app (.cons 2 t.text .nil .nil)):=by
 conv=>lhs; unfold Yb
 rw[h]; dsimp only; rw[if_neg Zo,if_pos hk]
theorem YgT (h:L[i]? =some t)(hk:t.kind=4):Yb L en pat (n+1) deep i acc=Yb L en pat n deep (i+1) (acc.app (.cons 3 t.text .nil .nil)):=by
 conv=>lhs; unfold Yb
 rw[h]; dsimp only; rw[if_neg Zo,if_neg Zo,if_pos hk]
theorem YgR (h:L[i]? =some t)(hk:t.kind=5):Yb L en pat (n+1) deep i acc=Yb L en pat n deep (i+1) (acc.app (varT t.text .nil)):=by
 conv=>lhs; unfold Yb
 rw[h]; dsimp only; rw[if_neg Zo,if_neg Zo,if_neg Zo,if_pos hk]
theorem Ybd (h:L[i]? =some t)(hk:t.kind=6)(ht:t.text=Ya5\/t.text=JL):
 Yb L en pat (n+1) deep i acc=(Jd L en pat n (decide (t.text=JL)) deep i).bind fun x k=>Yb L en pat n deep k (acc.app (.cons x.1 x.2.1 x.2.2 .nil)):=by
 have hi:i<L.length:=by
  refine Nat.lt_of_not_le fun q=>?_;rw[List.getElem?_eq_none q] at h; cases h
 have hf:∀{α:Type} (c:Int),(YQ L en i c:Rd α)= .bad t.at_ c:=fun c=>by unfold YQ Y6; rw[h,if_pos (.inl hi)]
 have hne:¬(Ya5=JL):=Zd;conv=>lhs; unfold Yb
 rw[h]; dsimp only; rw[if_neg Zo,if_neg Zo,if_neg Zo,if_neg Zo];unfold Jd;rcases ht with ht | ht
 ·rw[if_pos ⟨hk,ht⟩,decide_eq_false (by rw[ht]; exact hne),Bool.false_and,if_neg Bool.false_ne_true];by_cases hd:100<=deep
  ·rw[if_pos hd,if_pos hd,hf]; rfl
  ·rw[if_neg hd,if_neg hd,if_neg Bool.false_ne_true,Rd.bind_assoc];simp only[Rd.bind_assoc];rfl
 ·rw[if_neg (by rw[ht]; intro q; exact hne q.2.symm),if_pos ⟨hk,ht⟩,decide_eq_true ht,Bool.true_and];cases pat with
  |true=>rw[if_pos rfl,if_pos rfl,hf]; rfl
  |
   false=>
   rw[if_neg Bool.false_ne_true,if_neg Bool.false_ne_true];by_cases hd:100<=deep
   ·rw[if_pos hd,if_pos hd,hf]; rfl
   ·rw[if_neg hd,if_neg hd,if_pos rfl,Rd.bind_assoc];simp only[Rd.bind_assoc];rfl
theorem Ycl (h:L[i]? =some t)(h1:¬t.kind=1)(h2:¬(t.kind=2\/t.kind=3))(h4:¬t.kind=4)(h5:¬t.kind=5)(h6:t.kind=6->¬t.text=Ya5/\¬t.text=JL):Yb L en pat (n+1) deep i acc= .ok acc i:=by
 unfold Yb;rw[h]; dsimp only; rw[if_neg h1,if_neg h2,if_neg h4,if_neg h5,if_neg (fun q=>(h6 q.1).1 q.2),if_neg (fun q=>(h6 q.1).2 q.2)]
end
theorem YbM (s:ByteArray):∀n i:Nat,(YA s n i).nodes=n
 |0,_=>rfl
 |n+1,i=>by rw[YA,Ts.nodes,YbM s n]; simp[Ts.nodes]
theorem Yfk (s:ByteArray):(varT s .nil).nodes=1:=by unfold varT; split<;>rfl
theorem Ybx {L:List Tk}(hs:∀x∈L,x.text.size<=40000){en:Nat}{pat:Bool}:∀(n deep i:Nat) (acc l:Ts) (j:Nat),Yb L en pat n deep i acc= .ok l j->l.nodes<=acc.nodes+(j - i)*40001
 |0,_,_,_,_,_,h=>by cases h; exact Nat.le_add_right _ _
 |
  n+1,deep,i,acc,l,j,h=>by
  have step:∀{i2:Nat} {l2:Ts},Yb L en pat n deep i2 (acc.app l2)= .ok l j->i<i2->l2.nodes<=(i2 - i)*40001->l.nodes<=acc.nodes+(j - i)*40001:=by
   intro i2 l2 h2 hi hl;have e1:=Ybx hs n _ _ _ _ _ h2;have e2:=JP n _ _ _ _ _ h2;rw[Ts.nodes_app] at e1;have e3:(j - i)*40001=(i2 - i)*40001+(j - i2)*40001:=by rw[<-Nat.add_mul]; congr 1; omega
   omega
  unfold Yb at h;split at h
  ·cases h; exact Nat.le_add_right _ _
  ·rename_i t ht
   have hz:=hs t (List.mem_of_getElem? ht);split at h
   ·refine step h Zo ?_;unfold YaI; rw[YbM]; have:i+1 - i=1:=Zo
    rw[this]; omega
   ·split at h
    ·refine step h Zo ?_;have:i+1 - i=1:=Zo;rw[this]; simp[Ts.nodes]
    ·split at h
     ·refine step h Zo ?_;have:i+1 - i=1:=Zo;rw[this]; simp[Ts.nodes]
     ·split at h
      ·refine step h Zo ?_;have:i+1 - i=1:=Zo;rw[this,Yfk]; omega
      ·split at h
       ·split at h
        ·cases h
        ·obtain⟨kids,j1,h1,h⟩:=Rd.bind_inv h;obtain⟨_,k,h2,h⟩:=Rd.bind_inv h;have e1:=JP n _ _ _ _ _ h1;have e2:=(YG h2).2;have e3:=Ybx hs n _ _ _ _ _ h1;simp only[Ts.nodes] at e3;refine step h Zo ?_;have e4:(k - i)*40001=(j1 - (i+1))*40001+2*40001:=by rw[<-Nat.add_mul]; congr 1; omega
         simp only[Ts.nodes];omega
       ·split at h
        ·split at h
         ·cases h
         ·split at h
          ·cases h
          ·obtain⟨nm,m,h0,h⟩:=Rd.bind_inv h;obtain⟨kids,j1,h1,h⟩:=Rd.bind_inv h;obtain⟨_,k,h2,h⟩:=Rd.bind_inv h;have e0:=JD h0;have e1:=JP n _ _ _ _ _ h1;have e2:=(YG h2).2;have e3:=Ybx hs n _ _ _ _ _ h1;simp only[Ts.nodes] at e3;refine step h Zo ?_;have e4:(k - i)*40001=(j1 - m)*40001+(k - i - (j1 - m))*40001:=by rw[<-Nat.add_mul]; congr 1; omega
           have e5:1*40001<=(k - i - (j1 - m))*40001:=Nat.mul_le_mul_right _ Zo;simp only[Ts.nodes];omega
        ·cases h; exact Nat.le_add_right _ _
section
variable {L:List Tk}{en:Nat}
theorem JM {pat:Bool}{i:Nat}{l:Ts}{j:Nat}(h:YK L en pat i= .ok l j):i<=j:=by
 unfold YK YQ at h;obtain⟨x,k,h1,h⟩:=Rd.bind_inv h;have:=JP _ _ _ _ _ _ h1;split at h
 ·cases h
 ·cases h; omega
def Yg (L:List Tk)(en n blocks i:Nat):Rd Ss:=(YK L en true i).bind fun left j=>JV L en n blocks j left []
theorem Ygg {n blocks i:Nat}{left:Ts}{tests:List (Ts×Ts)}(h:isN L i 6 JQ=false):
 JV L en (n+1) blocks i left tests=(Yh L en i sEq).bind fun _ j=>(YK L en false j).bind fun r k=>.ok (.cons left tests r .nil .nil .nil) k:=by
 unfold JV; rw[h,if_neg Bool.false_ne_true]
theorem Yc2 {n blocks i:Nat}{left:Ts}{tests:List (Ts×Ts)}(h:isN L i 6 JQ=true):
 JV L en (n+1) blocks i left tests=(YK L en false (i+1)).bind fun e j=>(Yh L en j YaR).bind fun _ k=>
  if isN L k 6 Y1=true then
   if 6<=blocks then YQ L en k 54
   else (YZ L en n (blocks+1) (k+1)).bind fun b m=>.ok (.cons left tests .nil e b .nil) m
  else (YK L en true k).bind fun p m=>JV L en n blocks m left (tests++[(e,p)]):=by
 conv=>lhs; unfold JV
 rw[h,if_pos rfl]
mutual
theorem Ydw:∀(n blocks i:Nat) (left:Ts) (tests:List (Ts×Ts)) (s:Ss) (j:Nat),JV L en n blocks i left tests= .ok s j->i<j
 |0,_,_,_,_,_,_,h=>by unfold JV at h; cases h
 |
  n+1,blocks,i,left,tests,s,j,h=>by
  unfold JV at h;split at h
  ·obtain⟨e,j1,he,h⟩:=Rd.bind_inv h;obtain⟨_,k,hm,h⟩:=Rd.bind_inv h;have e1:=JM he;have e2:=(YG hm).2;split at h
   ·split at h
    ·cases h
    ·obtain⟨b,m,hb,h⟩:=Rd.bind_inv h;cases h;have:=Ygf n _ _ _ _ hb;omega
   ·obtain⟨p,m,hp,h⟩:=Rd.bind_inv h;have e3:=JM hp;have:=Ydw n _ _ _ _ _ _ h;omega
  ·obtain⟨_,k,hm,h⟩:=Rd.bind_inv h;obtain⟨r,q,hr,h⟩:=Rd.bind_inv h;cases h;have e2:=(YG hm).2;have e3:=JM hr;omega
theorem Ygf:∀(n blocks i:Nat) (s:Ss) (j:Nat),YZ L en n blocks i= .ok s j->i<j
 |0,_,_,_,_,h=>by unfold YZ at h; cases h
 |
  n+1,blocks,i,s,j,h=>by
  unfold YZ at h;split at h
  ·cases h
  ·exact Ylc n _ _ _ _ _ h
theorem Ylc:∀(n blocks i:Nat) (acc s:Ss) (j:Nat),YaF L en n blocks i acc= .ok s j->i<j
 |0,_,_,_,_,_,h=>by unfold YaF at h; cases h
 |
  n+1,blocks,i,acc,s,j,h=>by
  unfold YaF at h;obtain⟨left,j1,hl,h⟩:=Rd.bind_inv h;obtain⟨x,k,hx,h⟩:=Rd.bind_inv h;have e1:=JM hl;have e2:=Ydw n _ _ _ _ _ _ hx;split at h
  ·split at h
   ·cases h; omega
   ·have:=Ylc n _ _ _ _ _ h; omega
  ·split at h
   ·cases h; omega
   ·cases h
end
theorem YhT {n blocks i:Nat}{s:Ss}{j:Nat}(h:Yg L en n blocks i= .ok s j):i<j:=by
 obtain⟨l,k,h1,h2⟩:=Rd.bind_inv h;have:=JM h1;have:=Ydw _ _ _ _ _ _ _ h2;omega
theorem YnI {n blocks i:Nat}{acc:Ss}:YaF L en (n+1) blocks i acc=(Yg L en n blocks i).bind fun s k=>
 if isN L k 6 JA=true then
  if isN L (k+1) 6 sEnd=true then .ok (acc.app s) (k+2) else YaF L en n blocks (k+1) (acc.app s)
 else if isN L k 6 sEnd=true then .ok (acc.app s) (k+1) else YQ L en k 50:=by
 conv=>lhs; unfold YaF
 unfold Yg;rw[Rd.bind_assoc]
mutual
theorem Yd4:∀(n blocks i:Nat) (left:Ts) (tests:List (Ts×Ts)) (s:Ss) (j:Nat),JV L en n blocks i left tests= .ok s j->s.len=1
 |0,_,_,_,_,_,_,h=>by unfold JV at h; cases h
 |
  n+1,blocks,i,left,tests,s,j,h=>by
  unfold JV at h;split at h
  ·obtain⟨e,j1,he,h⟩:=Rd.bind_inv h;obtain⟨_,k,hm,h⟩:=Rd.bind_inv h;split at h
   ·split at h
    ·cases h
    ·obtain⟨b,m,hb,h⟩:=Rd.bind_inv h;cases h; rfl
   ·obtain⟨p,m,hp,h⟩:=Rd.bind_inv h;exact Yd4 n _ _ _ _ _ _ h
  ·obtain⟨_,k,hm,h⟩:=Rd.bind_inv h;obtain⟨r,q,hr,h⟩:=Rd.bind_inv h;cases h; rfl
end
end
end Go.Proofs.YteamjdmhdfjopaaGreatDoor
