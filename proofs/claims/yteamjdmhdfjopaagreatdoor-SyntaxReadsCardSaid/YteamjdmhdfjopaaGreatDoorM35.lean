/- A part of the proof; it holds the texts Ox Sqs (names and blanks shortened). -/
import Derived.Test.YteamjdmhdfjopaaGreatDoorM32
import Derived.Test.YteamjdmhdfjopaaGreatDoorM33
import Derived.Test.YteamjdmhdfjopaaGreatDoorM34
import Derived.Test.YteamjdmhdfjopaaGreatDoorM11
namespace Go.Proofs.YteamjdmhdfjopaaGreatDoor
open Go.RowKit
set_option maxRecDepth 100000
set_option maxHeartbeats 8000000
set_option linter.unusedVariables false
set_option linter.unusedSimpArgs false
theorem one_any (s:ByteArray)(i:Nat)(w:World)(hs:s.size<=1000000)(hi:i<s.size):
 Calls Tryz.prog 135 #[.string s,.int .i64 i] w fun e w'=>e= .returned (oneV i (tokN s i))/\Below w.heap.size w w':=by
 by_cases h39:bt s i=39
 ·exact Yny s i w hs hi h39 _ rfl
 by_cases h34:bt s i=34
 ·exact Ynz s i w hs hi h34 _ rfl
 have hq:¬(bt s i=39\/bt s i=34):=Zo;by_cases h4:cls (bt s i).toNat=4
 ·exact YmE s i w hs hi hq h4 _ rfl
 by_cases h36:bt s i=36
 ·exact YmD s i w hs hi h36 _ rfl
 by_cases hv:steB (bt s i)=true/\bt s (i+1)=46
 ·exact Ynx s i w hs hi hq h4 hv.1 hv.2 _ rfl
 by_cases h2:cls (bt s i).toNat=2
 ·exact YmG s i w hs hi hq h2 hv _ rfl
 by_cases h3:cls (bt s i).toNat=3
 ·exact Yk1 s i w hs hi hq h3 _ rfl
 by_cases h45:bt s i=45
 ·by_cases h3':cls (bt s (i+1)).toNat=3
  ·exact YkZ s i w hs hi h45 h3' _ rfl
  ·exact Yjw s i w hs hi h45 h3' _ rfl
 ·exact YmF s i w hs hi hq h4 h36 h2 h3 h45 _ rfl
theorem YfR (s:ByteArray)(i j:Nat):(s.extract i j).size<=s.size:=by rw[ByteArray.size_extract]; omega
theorem Yjx {s:ByteArray}{k:Int}{fr fin:Nat}{kind:Int}{text:ByteArray}{f:Nat}(h:near s k fr fin= .ok kind text f):text.size<=s.size:=by
 unfold near at h;split at h
 ·cases h
 ·cases h; exact YfR _ _ _
theorem Ykb {s:ByteArray}{i:Nat}{kind:Int}{text:ByteArray}{fin:Nat}(h:tokN s i= .ok kind text fin):text.size<=s.size:=by
 unfold tokN at h;split at h
 ·rename_i hq
  have hL:∀out f,quoN s (bt s i) (s.size - i) (i+1) []= .ok out f->(⟨out.toArray⟩:ByteArray).size<=s.size:=fun out f hQ=>by
   have h1:=YeJ s (bt s i) _ _ _ _ _ hQ;have h2:=YfG s (bt s i) Zo _ _ _ _ _ hQ;have h3:(⟨out.toArray⟩:ByteArray).size=out.length:=List.size_toArray ..;simp at h1; omega
  cases hQ:quoN s (bt s i) (s.size - i) (i+1) [] with
  |bad=>rw[hQ] at h; cases h
  |
   ok out f=>
   rw[hQ] at h;have:=hL out f hQ;unfold quoR at h;dsimp only at h;split at h
   ·cases h; exact this
   ·split at h
    ·cases h
    ·cases h; exact this
 ·split at h
  ·cases h; exact YfR _ _ _
  ·repeat' first
    |exact Yjx h
    |(cases h; done)
    |split at h
theorem Yfm (s:ByteArray):∀(n i:Nat) (sp:List (Nat×Nat)) (acc l:List Tk) (sp':List (Nat×Nat)),i<=s.size->acc.length<=i->(∀x∈acc,x.text.size<=s.size)->Yau s n i sp acc= .ok l sp'->l.length<=s.size/\∀x∈l,x.text.size<=s.size
 |0,i,sp,acc,l,sp',hi,hz,ha,h=>by simp only[Yau,YdZ.ok.injEq] at h; rw[<-h.1]; exact⟨by omega,ha⟩
 |
  n+1,i,sp,acc,l,sp',hi,hz,ha,h=>by
  unfold Yau at h;split at h
  ·cases h
  ·rename_i j sp1 hs
   have hj:=YcO s _ _ _ _ _ hi hs;split at h
   ·cases h; exact⟨by omega,ha⟩
   ·split at h
    ·cases h
    ·rename_i kind text fin ht
     have hf:=Yiy Zo ht;refine Yfm s n _ _ _ _ _ hf.2 (by rw[List.length_append,List.length_singleton]; omega) (fun x hx=>?_) h;rcases List.mem_append.1 hx with q | q
     ·exact ha x q
     ·rw[List.mem_singleton] at q;subst q;exact Ykb ht
theorem Ycn {s:ByteArray}{l:List Tk}{sp:List (Nat×Nat)}(h:Yax s= .ok l sp):l.length<=s.size/\∀x∈l,x.text.size<=s.size:=by
 unfold Yax at h;split at h
 ·cases h
 ·exact Yfm s _ _ _ _ _ _ (Nat.zero_le _) Zs Zs h
end Go.Proofs.YteamjdmhdfjopaaGreatDoor
