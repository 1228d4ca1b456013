/- A part of the proof; it holds the texts Tks (names and blanks shortened). -/
import Derived.Test.YteamjdmhdfjopaaGreatDoorC28
import Derived.Test.YteamjdmhdfjopaaGreatDoorC1
import Derived.WalkMore
import Derived.TacticsIn
import Derived.TacticsInMore
import Derived.RegionIn
import Derived.RangeFuncSeq
import Derived.RangeFuncLeaves
namespace Go.Proofs.YteamjdmhdfjopaaGreatDoor
open Go.RowKit
set_option maxRecDepth 100000
set_option maxHeartbeats 8000000
set_option linter.unusedVariables false
set_option linter.unusedSimpArgs false
set_option linter.unnecessarySimpa false
theorem Yg.alloc {b:Nat}{v:Value}{w wr:World}(h:Yg b v w wr)(o:Obj):Yg b v w (wr.alloc o):=Keep.trans h (Keep.of_alloc (S:=fun _=>False) _ _) (fun _ _ q=>q.elim)
def YqE (B b:Nat)(s:ByteArray)(Mine:List Tk->World->Prop)(Mx:Int->Nat->World->Prop)(R:Ydr)(e:Ending)(W':World):Prop:=
 (∃v,e= .returned v)/\match R with
   |.bad c x=>Mx c x W'
   |.ok L spf=>Mine L W'/\∃v,Yk B b s s.size spf v W'
theorem Yi1 (B b cb:Nat)(s:ByteArray)(m:Int)(l:Nat)(Mine:List Tk->World->Prop)(Mx:Int->Nat->World->Prop)(hs:s.size<=40000)(hg:2<B)(hbB:B<=b)
 (hM:∀acc i sp v W W',Mine acc W->Yk B b s i sp v W->Yg b v W W'->Mine acc W')
 (hc:∀acc W,Mine acc W->W.cell? ⟨cb,0,none⟩=some (.pointer (some ⟨b,0,none⟩))/\W.cell? ⟨2,0,none⟩=some (.int .i64 m)/\B<=W.heap.size)
 (hY:∀(acc:List Tk) (i:Nat) (sp:List (Nat×Nat)) (v:Value) (W:World) (kind:Int) (text:ByteArray) (j:Nat),Mine acc W->Yk B b s i sp v W->acc.length<40000->
   YieldAt Fence.wide 4 Tryz.prog l #[.agg #[.int .i64 kind,.string text,.int .i64 j],.nilIface] W fun e W'=>e= .returned (.bool true)/\Mine (acc++[⟨kind,text,j⟩]) W'/\Yk B b s i sp v W')
 (hYe:∀(acc:List Tk) (W:World) (code:Int) (x k:Nat),Mine acc W->W.heap[k]? =some (.cells #[.int .i64 x,.int .i64 code] 192 (0,0))->
   YieldAt Fence.wide 4 Tryz.prog l #[.agg #[.int .i64 0,.string ⟨#[]⟩,.int .i64 0],.iface 190 (.pointer (some ⟨k,0,none⟩))] W fun e W'=>e= .returned (.bool false)/\Mx code x W')
 (W:World)(v:Value)(h0:Mine [] W)(hA:Yk B b s 0 [] v W)(R:Ydr)(hR:Hid (Jd s (s.size+1) 0 [] []=R)):
 Calls Tryz.prog 164 #[.func (.yield l) #[] #[],.pointer (some ⟨cb,0,none⟩)] W (YqE B b s Mine Mx R):=by
 have hFn:∀f,Fence.wide.fn f:=fun _=>trivial;have HM:Hid _:=hM;have HC:Hid _:=hc;have HY:Hid _:=hY;have HYe:Hid _:=hYe;clear hM hc hY hYe;go_enter Tryz.func164,Tryz.ntmps164;apply wp_scope_straight;go_wp2;apply wp_label;go_wp2;go_loopw [] (fun wr=>∃acc i sp v n,s.size - i<n/\Mine acc wr/\Yk B b s i sp v wr/\acc.length<=i/\Hid (Jd s n i sp acc=R)) (fun wr=>s.size - atOf b wr)
 case atStart=>exact⟨[],0,[],v,s.size+1,by omega,h0,hA,Nat.le_refl _,hR⟩
 case round=>
  obtain⟨acc,i,sp,v1,n,hn,hMi,hA1,hacc,hR1⟩:=hrel;obtain⟨n,rfl⟩:∃q,n=q+1:=⟨n - 1,by omega⟩;obtain⟨hcb,hm,hB⟩:=HC.out acc wr hMi;have hi:=hA1.le;have hSk:=YoD B b s i sp v1 wr m hs hA1 hB hg hbB hm (s.size+1) Zo;generalize hS0:YO s (s.size+1) i sp=S at hSk;have HS:=Zh hS0;clear hS0;clear hR;refine(wpIn_wide (n:=5)).1 ?_;gi_wp2_with fail
  refine(callsIn_wide.2 hSk).mono ?_;clear hSk;intro e w1 hP;cases S with
  |
   err x=>
   obtain⟨k,rfl,hk,hh,hkp⟩:=hP;have hM1:=HM.out acc i sp v1 wr w1 hMi hA1 hkp;obtain⟨fn,tmps,assign,body,hy,hRd⟩:=HYe.out acc w1 42 x k hM1 hh;have HX:=Zh (Yop hR1.out HS.out);clear hR1 HS;gi_wp2
   refine hRd.mono ?_;rintro e W3 ⟨rfl,hx3⟩;gi_wp2
   refine bodyPost_ret (results_none rfl _ _ _) rfl ?_;rw[HX.out];exact⟨⟨_,rfl⟩,hx3⟩
  |
   ok j sp'=>
   obtain⟨rfl,v2,hA2,hkp,hv2⟩:=hP;have hM1:=HM.out acc i sp v1 wr w1 hMi hA1 hkp;have hj:=JK s _ _ _ _ _ hi HS.out;obtain⟨hcb1,hm1,hB1⟩:=HC.out acc w1 hM1;have q0:=hA2.row.c0;have q1:=hA2.row.c1;by_cases hje:j=s.size
   ·have HX:=Zh (YgN hR1.out HS.out hje);have d0:decide (j=s.size)=true:=decide_eq_true hje;clear hR1 HS;gi_wp2
    refine wpIn_wide.2 ?_;go_quiet (fail)
    all_goals gi_wp2
    all_goals go_end0
    all_goals
     rw[HX.out];subst hje;exact⟨⟨_,rfl⟩,HM.out _ _ _ _ _ _ hM1 hA2 (Keep.of_drewN _ _),_,hA2.drewN _⟩
   ·have d0:decide (j=s.size)=false:=decide_eq_false hje;gi_wp2
    refine wpIn_wide.2 ?_;go_quiet (fail)
    gi_wp2_with fail
    have hjs:j<s.size:=Zo;generalize hTT:tokN s j=T;have HT:Hid (tokN s j=T):=hTT;clear hTT;refine(callsIn_wide.2 (Yl7 B b s j sp' v2 _ hs (hA2.drewN _) hjs hB1 hbB T HT)).mono ?_;intro e w3 hP;cases T with
    |
     bad c x=>
     obtain⟨k,rfl,hk,hh,hkp3⟩:=hP;have HX:=Zh (Yoq hR1.out HS.out hje HT.out);have hM3:=HM.out acc j sp' v2 w1 _ hM1 hA2 (Yg.alloc (Keep.trans (Keep.of_drewN (S:=fun k=>k=b\/v2.ownBlock=some k) w1 _) hkp3 (fun _ _ q=>q)) (.cells #[.int .i64 0,.string ⟨#[]⟩,.int .i64 0] 136));obtain⟨fn,tmps,assign,body,hy,hRd⟩:=HYe.out acc _ c x k hM3 ((Below.heap_alloc _ _ k (by obtain⟨q,_⟩:=Zg hh; exact q)).trans hh);clear hR1 HS;unfold zTok;gi_wp2
     refine hRd.mono ?_;rintro e W3 ⟨rfl,hx3⟩;gi_wp2
     go_end0
     rw[HX.out];exact⟨⟨_,rfl⟩,hx3⟩
    |
     ok kind text fin=>
     obtain⟨rfl,hA3,hkp3⟩:=hP;have hf:=Ycx hjs HT.out;have HX:=Zh (YeE hR1.out HS.out hje HT.out);have hM3:=HM.out acc j sp' v2 w1 _ hM1 hA2 (Yg.alloc (Keep.trans (Keep.of_drewN (S:=fun k=>k=b\/v2.ownBlock=some k) w1 _) hkp3 (fun _ _ q=>q)) (.cells #[.int .i64 kind,.string text,.int .i64 j] 136));have hA4:=hA3.below (below_alloc1 w3 (.cells #[.int .i64 kind,.string text,.int .i64 j] 136));obtain⟨fn,tmps,assign,body,hy,hRd⟩:=HY.out acc fin sp' v2 _ kind text j hM3 hA4 Zo;clear hR1 HS;gi_wp2
     refine hRd.mono ?_;rintro e W3 ⟨rfl,hM5,hA5⟩;gi_wp2
     go_roundw
     case rel=>exact⟨_,fin,sp',v2,n,by omega,hM5,hA5,by simp; omega,HX⟩
     case measure=>rw[hA1.row.atOf,hA5.row.atOf]; omega
end Go.Proofs.YteamjdmhdfjopaaGreatDoor
