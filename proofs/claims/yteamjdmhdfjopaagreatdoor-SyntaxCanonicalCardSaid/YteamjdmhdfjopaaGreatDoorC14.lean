/- A part of the proof; it holds the texts Eqa (names and blanks shortened). -/
import Derived.Test.YteamjdmhdfjopaaGreatDoorC5
import Derived.Test.YteamjdmhdfjopaaGreatDoorCS
namespace Go.Proofs.YteamjdmhdfjopaaGreatDoor
open Go.RowKit
set_option maxRecDepth 100000
set_option maxHeartbeats 8000000
set_option linter.unusedVariables false
set_option linter.unusedSimpArgs false
structure CqS (S:Nat->Prop)(T:Ts)(ao bo:Option Addr)(w:World)(k:Nat)(rest:Ts):Prop where
 len:k+rest.len=T.len
 tailA:rest≠.nil->∃g o,ao=some ⟨g,o,none⟩/\rest.at w S g (o+k*3)
 tailB:rest≠.nil->∃g o,bo=some ⟨g,o,none⟩/\rest.at w S g (o+k*3)
 count:rest.nodes<=T.nodes
theorem Yph (n:Int):Lib.compareInt n n=0:=by simp[Lib.compareInt]
theorem YgU (S:Nat->Prop):∀(m:Nat) (T:Ts) (va vb:Value) (w:World),T.nodes<m->TsV w S va T->TsV w S vb T->T.nodes<=1000000000000->
 Calls Tryz.prog 207 #[va,vb] w fun e w'=>e= .returned (.int .i64 0)/\∃n,w'=w.drewN n:=by
 intro m;induction m with
 |zero=>intro T va vb w hm; omega
 |
  succ m ih=>
  intro T va vb w hm hA hB hbig;obtain⟨ao,ca,rfl,htA⟩:=hA;obtain⟨bo,cb,rfl,htB⟩:=hB;have IH:Hid _:=ih;have hlen:=Ts.len_le T;clear ih;have HM:=Zh hm;have hcm:=fun w=>Tryz.cmp_Compare_int (T.len:Int) (T.len:Int) w;rw[Yph] at hcm;have HCm:=Zh hcm;clear hm hcm;go_enter Tryz.func207,Tryz.ntmps207;go_wp2_with fail;go_loopw [12] (fun i wr=>(∃q,wr=w.drewN q)/\∃(k:Nat) (rest:Ts),i= .int .i64 k/\Hid (CqS S T ao bo w k rest)) (fun i _=>T.len - (intOf i).toNat)
  case atStart=>exact⟨⟨0,rfl⟩,0,T,rfl,Zh ⟨Nat.zero_add _,fun h=>by obtain⟨g,o,e,_,hat,_⟩:=htA h; exact⟨g,o,e,by simpa using hat⟩,fun h=>by obtain⟨g,o,e,_,hat,_⟩:=htB h; exact⟨g,o,e,by simpa using hat⟩,Nat.le_refl _⟩⟩
  case round=>
   obtain⟨⟨q,rfl⟩,k,rest,rfl,HS⟩:=hrel;clear htA htB;have hl:=HS.out.len;cases rest with
   |
    nil=>
    have hk:k=T.len:=by simpa[Ts.len] using hl
    have l0:decide ((k:Int)<(T.len:Int))=false:=Zf;have l1:decide (k<T.len)=false:=Zf;clear hk hl;go_wp2_with fail;refine(HCm.out _).mono ?_;rintro e w1 ⟨rfl,rfl⟩;go_wp2;go_ret;exact⟨rfl,_,rfl⟩
   |
    cons kk tt kids rest=>
    simp only[Ts.len] at hl;have l0:decide ((k:Int)<(T.len:Int))=true:=Zt;have l1:decide (k<T.len)=true:=Zt;obtain⟨g,o,rfl,a0,a1,⟨ao2,ca2,a2,hka⟩,hra⟩:=HS.out.tailA (fun q=>by cases q);obtain⟨h,p,rfl,b0,b1,⟨bo2,cb2,b2,hkb⟩,hrb⟩:=HS.out.tailB (fun q=>by cases q);have hcount:=HS.out.count;simp only[Ts.nodes] at hcount;have hKA:TsV w S (.slice ao2 kids.len ca2) kids:=⟨ao2,ca2,rfl,hka⟩;have hKB:TsV w S (.slice bo2 kids.len cb2) kids:=⟨bo2,cb2,rfl,hkb⟩;have hI:=fun n=>IH.out kids _ _ (w.drewN n) (by have:=HM.out; omega) (hKA.keep (w':=w.drewN n) (fun _ _ _=>rfl) (fun _ q _=>q)) (hKB.keep (w':=w.drewN n) (fun _ _ _=>rfl) (fun _ q _=>q)) Zo;have HI:=Zh hI;have HNEXT:Hid (CqS S T (some ⟨g,o,none⟩) (some ⟨h,p,none⟩) w (k+1) rest):=Zh
     ⟨by omega,fun _=>⟨g,o,rfl,by rw[show o+(k+1)*3=o+k*3+3 by omega]; exact hra⟩,fun _=>⟨h,p,rfl,by rw[show p+(k+1)*3=p+k*3+3 by omega]; exact hrb⟩,by omega⟩
    clear hcount hKA hKB hI hka hkb hra hrb HS;go_wp2_with fail;go_quiet (fail)
    go_wp2_with fail;go_quiet (fail)
    go_wp2_with fail;go_quiet ((go_at_call 207; first | exact Yll HI.out | exact Calls.quiet_of (HI.out _)))
    go_wp2_with fail;go_roundw
    case rel=>exact⟨⟨_,rfl⟩,k+1,rest,by go_num,HNEXT⟩
    case measure=>simp[intOf]; omega
theorem Yi7 (S:Nat->Prop)(T:Ts)(va vb:Value)(w:World)(hA:TsV w S va T)(hB:TsV w S vb T)(h1:T.nodes<=1000000000000):
 Calls Tryz.prog 160 #[va,vb] w fun e w'=>e= .returned (.bool true)/\∃n,w'=w.drewN n:=by
 have hC:=fun n=>YgU S (T.nodes+1) T va vb (w.drewN n) (Nat.lt_succ_self _) (hA.keep (w':=w.drewN n) (fun _ _ _=>rfl) (fun _ q _=>q)) (hB.keep (w':=w.drewN n) (fun _ _ _=>rfl) (fun _ q _=>q)) h1;obtain⟨ao,ca,rfl⟩:=hA.form;obtain⟨bo,cb,rfl⟩:=hB.form;have HC:=Zh hC;clear hC hA hB;go_enter Tryz.func160,Tryz.ntmps160;go_wp2_with fail;refine(HC.out 0).mono ?_;rintro e w1 ⟨rfl,n,rfl⟩;go_wp2;go_ret;exact⟨rfl,_,rfl⟩
end Go.Proofs.YteamjdmhdfjopaaGreatDoor
