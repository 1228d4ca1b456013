/- A part of the proof; it holds the texts Cls (names and blanks shortened). -/
import Derived.Test.YteamjdmhdfjopaaGreatDoorProg
import Derived.Test.YteamjdmhdfjopaaGreatDoorC2
import Derived.Lib.SmallJoins
import Derived.Test.YteamjdmhdfjopaaGreatDoorC1
namespace Go.Proofs.YteamjdmhdfjopaaGreatDoor
open Go.RowKit
set_option maxRecDepth 100000
set_option maxHeartbeats 8000000
set_option linter.unusedVariables false
set_option linter.unusedSimpArgs false
def Yap:Array Value:=Array.replicate 256 (.int .i64 0)
theorem YiV (w:World):(zeroValue 130).run Tryz.prog w= .ok (.agg Yap) w:=by kernel_rfl
def JI:Array Value:=((List.range 256).map fun c=>Value.int .i64 (cls c)).toArray
def YbH:List Int:=[32,9,10,13]
def signs:List Int:=[40,41,60,62,123,125,61,44,58,59]
def cw (k j:Nat):Int:=if (j:Int)∈YbH.take k then 1 else 0
def cl (k j:Nat):Int:=if 97<=j/\j<97+k\/65<=j/\j<65+k then 2 else cw 4 j
def cd (k j:Nat):Int:=if 48<=j/\j<48+k then 3 else cl 26 j
def cg (k j:Nat):Int:=if (j:Int)∈signs.take k then 4 else cd 10 j
theorem Yqv (k:Nat)(hk:k<4)(i:Nat)(hi:(i:Int)=YbH.getD k 0)(j:Nat):(if j=i then 1 else cw k j)=cw (k+1) j:=by
 have:k=0\/k=1\/k=2\/k=3:=Zo;rcases this with rfl | rfl | rfl | rfl<;>simp[YbH] at hi<;>obtain rfl:i=_:=by { exact Int.ofNat.inj hi }<;>simp[YbH,cw]<;>omega
theorem Yqw (k:Nat)(hk:k<26)(j:Nat):(if j=65+k then 2 else if j=97+k then 2 else cl k j)=cl (k+1) j:=by
 unfold cl;repeat' split
 all_goals first | rfl | omega
theorem YqB (k:Nat)(hk:k<10)(j:Nat):(if j=48+k then 3 else cd k j)=cd (k+1) j:=by
 unfold cd;repeat' split
 all_goals first | rfl | omega
theorem Yqx (k:Nat)(hk:k<10)(i:Nat)(hi:(i:Int)=signs.getD k 0)(j:Nat):(if j=i then 4 else cg k j)=cg (k+1) j:=by
 have:k=0\/k=1\/k=2\/k=3\/k=4\/k=5\/k=6\/k=7\/k=8\/k=9:=Zo;rcases this with rfl | rfl | rfl | rfl | rfl | rfl | rfl | rfl | rfl | rfl<;>simp[signs] at hi<;>obtain rfl:i=_:=by { exact Int.ofNat.inj hi }<;>simp[signs,cg]<;>(repeat' split)<;>first | rfl | omega
theorem Yq4 (j:Nat):cg 10 j=cls j:=by
 unfold cg cls cd cl cw;simp[signs,YbH];repeat' split
 all_goals first | rfl | omega
theorem YaX:Yap.size=256:=by simp[Yap]
theorem YeA (i:Nat)(h:i<256):Yap[i]? =some (.int .i64 0):=by simp[Yap,h]
structure ClsW (w:World)(f:Nat->Int)(wr:World):Prop where
 res:wr.rowIs w.heap.size 130 256 (fun _=>.int .i64 0)
 out:wr.rowIs (w.heap.size+1) 130 256 (fun j=>.int .i64 (f j))
 below:Below w.heap.size w wr
theorem ClsW.cell {w wr:World}{f:Nat->Int}(h:ClsW w f wr)(i:Nat)(hi:i<256):wr.cell? ⟨w.heap.size+1,i,none⟩=some (.int .i64 (f i)):=h.out.cell hi
theorem ClsW.set {w wr:World}{f g:Nat->Int}(h:ClsW w f wr)(i:Nat)(v:Int)(hg:∀j,j<256->(if j=i then v else f j)=g j):ClsW w g (wr.setCell ⟨w.heap.size+1,i,none⟩ (.int .i64 v)):=
 ⟨h.res.setOther Zs _,(h.out.set i _).congr (fun j hj=>by rw[<-hg j hj]; split<;>rfl),h.below.setCell Zs _⟩
theorem ClsW.start (w:World):ClsW w (cw 0) ((w.alloc (.cells Yap 130)).alloc (.cells Yap 130)):=by
 have h1:=World.rowIs_alloc w Yap 130 (fun _=>.int .i64 0) (fun i hi=>YeA i (by rwa [YaX] at hi));have h2:=World.rowIs_alloc (w.alloc (.cells Yap 130)) Yap 130 (fun j=>.int .i64 (cw 0 j)) (fun i hi=>by rw[YaX] at hi; rw[YeA i hi]; simp[cw]);rw[YaX] at h1 h2;exact⟨h1.alloc _,by simpa using h2,((Below.refl _ _).alloc (Nat.le_refl _) _).alloc Zs _⟩
theorem ClsW.alloc {w wr:World}{f:Nat->Int}(h:ClsW w f wr)(o:Obj):ClsW w f (wr.alloc o):=⟨h.res.alloc o,h.out.alloc o,h.below.alloc h.below.size o⟩
theorem ClsW.congr {w wr:World}{f g:Nat->Int}(h:ClsW w f wr)(hg:∀j,j<256->f j=g j):ClsW w g wr:=
 ⟨h.res,h.out.congr (fun j hj=>by rw[hg j hj]),h.below⟩
def Yds (m:Nat)(l:List Int)(wr:World):Prop:=∀j,j<l.length->wr.cell? ⟨m,j,none⟩=some (.int .u8 (l.getD j 0))
theorem Yds.set {m n:Nat}{wr:World}{l:List Int}(h:Yds m l wr)(hne:n≠m)(i:Nat)(v:Value):Yds m l (wr.setCell ⟨n,i,none⟩ v):=
 fun j hj=>(World.cell?_setCell_other _ _ _ _ (fun e=>hne (congrArg Addr.block e))).trans (h j hj)
theorem YiY (j:Nat)(hj:j<YbH.length):#[Value.int .u8 32,.int .u8 9,.int .u8 10,.int .u8 13][j]? =some (.int .u8 (YbH.getD j 0)):=by
 have:j=0\/j=1\/j=2\/j=3:=by simp[YbH] at hj; omega
 rcases this with rfl | rfl | rfl | rfl<;>rfl
theorem Yle (j:Nat)(hj:j<signs.length):#[Value.int .u8 40,.int .u8 41,.int .u8 60,.int .u8 62,.int .u8 123,.int .u8 125,.int .u8 61,.int .u8 44,.int .u8 58,.int .u8 59][j]? =some (.int .u8 (signs.getD j 0)):=by
 have:j=0\/j=1\/j=2\/j=3\/j=4\/j=5\/j=6\/j=7\/j=8\/j=9:=by simp[signs] at hj; omega
 rcases this with rfl | rfl | rfl | rfl | rfl | rfl | rfl | rfl | rfl | rfl<;>rfl
theorem YcV:JI.size=256:=by simp[JI]
theorem YlD (i:Nat)(h:i<256):JI[i]? =some (.int .i64 (cls i)):=by simp[JI,h]
theorem ClsW.table {w wr:World}(h:ClsW w (cg 10) wr):wr.heap[w.heap.size+1]? =some (.cells JI 130 (0,0)):=by
 obtain⟨c,hb,hn,hc⟩:=h.out;rw[hb];congr 2
 apply Array.ext_getElem?;intro i;by_cases hi:i<256
 ·rw[hc i hi,YlD i hi,<-Yq4]
 ·rw[Array.getElem?_eq_none Zo,Array.getElem?_eq_none (by rw[YcV]; omega)]
theorem ClsW.slot {w wr:World}{f:Nat->Int}(h:ClsW w f wr):∃c,wr.heap[w.heap.size]? =some (.cells c 130 (0,0))/\c.size=JI.size:=by
 obtain⟨c,hb,hn,_⟩:=h.res;exact⟨c,hb,by rw[hn,YcV]⟩
theorem Yhl:(Tryz.prog.info? 130).map (·.size)=some JI.size:=by rw[YcV]; kernel_rfl
theorem YnS:JI.all (·.oneCell')=true:=by simp[JI,Value.oneCell']
theorem below_setRow {B:Nat}{a w:World}(h:Below B a w)(g:Nat)(hg:B<=g)(cs:Array Value):Below B a (w.setRow g cs):=
 h.trans ⟨rfl,rfl,rfl,by simp,fun k hk=>setRow_other _ _ _ _ Zo⟩
theorem YbC (w:World):
 Calls Tryz.prog 123 #[] w fun e w'=>e= .returned (.agg JI)/\Below w.heap.size w w':=by
 have kc:=fun(w:World) (C:Array Value) (n c g:Nat) (hg:g=w.heap.size)=>Joins.run_convert_bytes_const_at (P:=Tryz.prog) w 129 5 C n c g hg Tryz.underlying129 Tryz.underlying5;go_enter Tryz.func123,Tryz.ntmps123;go_wp2_with (refine Ycv rfl 130 rfl Yap YiV ?_);go_loopw [3,11] (fun _ i wr=>∃k:Nat,k<=4/\i= .int .i64 k/\ClsW w (cw k) wr/\Yds (w.heap.size+1+1) YbH wr) (fun _ i _=>4 - (intOf i).toNat)
 case atStart=>
  refine⟨0,by omega,rfl,(ClsW.start w).alloc _,fun j hj=>?_⟩;rw[Joins.cell_alloc_mark_at _ _ _ _ _ _ Zs];exact YiY j hj
 case round=>
  obtain⟨k,hk,rfl,hC,hB⟩:=hrel;by_cases hlt:k<4
  ·have hb:=hB k (by simpa[YbH] using hlt);obtain⟨x,hx0,hx1,hxe,hxh⟩:∃x:Nat,x<256/\x<127/\(x:Int)=YbH.getD k 0/\Hid ((x:Int)=YbH.getD k 0):=by
    have:k=0\/k=1\/k=2\/k=3:=Zo;rcases this with rfl | rfl | rfl | rfl<;>exact⟨_,by decide,by decide,rfl,rfl⟩
   rw[<-hxe] at hb;have hc:=hC.cell x hx0;have hf:=hC.out.frozen x;clear hxe;go_wp2;go_roundw
   case rel=>exact⟨k+1,by omega,by go_num,hC.set x 1 (fun j _=>Yqv k hlt x hxh.out j),hB.set Zs _ _⟩
   case measure=>simp[intOf]; omega
  ·obtain rfl:k=4:=by omega
   clear hB;go_wp2;go_loopw [4] (fun i wr=>∃k:Nat,k<=26/\i= .int .i32 ((97:Int)+k)/\ClsW w (cl k) wr) (fun i _=>123 - (intOf i).toNat)
   case atStart=>exact⟨0,by omega,rfl,hC.congr (fun j _=>by simp[cl]; omega)⟩
   case round=>
    clear hC;obtain⟨k,hk,rfl,hC⟩:=hrel;by_cases hlt:k<26
    ·have hc:=hC.cell (97+k) Zo;have hf:=hC.out.frozen (97+k);have hc2:=hC.cell (65+k) Zo;have hf2:=hC.out.frozen (65+k);have e1:((97:Int)+k).toNat=97+k:=Zo;have e2:((97:Int)+k - 97+65).toNat=65+k:=Zo;have e3:((97:Int)+k - 97+65)=65+k:=Zo;go_wp2;go_roundw
     case rel=>exact⟨k+1,by omega,by go_num,(hC.set (97+k) 2 (fun j _=>rfl)).set (65+k) 2 (fun j _=>Yqw k hlt j)⟩
     case measure=>simp[intOf]; omega
    ·obtain rfl:k=26:=by omega
     go_wp2;go_loopw [5] (fun i wr=>∃k:Nat,k<=10/\i= .int .i32 ((48:Int)+k)/\ClsW w (cd k) wr) (fun i _=>58 - (intOf i).toNat)
     case atStart=>exact⟨0,by omega,rfl,hC.congr (fun j _=>by simp[cd]; omega)⟩
     case round=>
      clear hC;obtain⟨k,hk,rfl,hC⟩:=hrel;by_cases hlt:k<10
      ·have hc:=hC.cell (48+k) Zo;have hf:=hC.out.frozen (48+k);have e1:((48:Int)+k).toNat=48+k:=Zo;go_wp2;go_roundw
       case rel=>exact⟨k+1,by omega,by go_num,hC.set (48+k) 3 (fun j _=>YqB k hlt j)⟩
       case measure=>simp[intOf]; omega
      ·obtain rfl:k=10:=by omega
       go_wp2;obtain⟨wo,rfl⟩:∃wo:World,wo=wr:=⟨_,rfl⟩;go_loopw [7,37] (fun _ i wr=>∃k:Nat,k<=10/\i= .int .i64 k/\ClsW w (cg k) wr/\Yds wo.heap.size signs wr) (fun _ i _=>10 - (intOf i).toNat)
       case atStart=>
        refine⟨0,by omega,rfl,(hC.congr (fun j _=>by simp[cg])).alloc _,fun j hj=>?_⟩;rw[Joins.cell_alloc_mark_at _ _ _ _ _ _ rfl];exact Yle j hj
       case round=>
        have hsz:w.heap.size+1<wo.heap.size:=hC.out.lt;clear hC;obtain⟨k,hk,rfl,hC,hB⟩:=hrel;by_cases hlt:k<10
        ·have hb:=hB k (by simpa[signs] using hlt);obtain⟨x,hx0,hx1,hxe,hxh⟩:∃x:Nat,x<256/\x<127/\(x:Int)=signs.getD k 0/\Hid ((x:Int)=signs.getD k 0):=by
          have:k=0\/k=1\/k=2\/k=3\/k=4\/k=5\/k=6\/k=7\/k=8\/k=9:=Zo;rcases this with rfl | rfl | rfl | rfl | rfl | rfl | rfl | rfl | rfl | rfl<;>exact⟨_,by decide,by decide,rfl,rfl⟩
         rw[<-hxe] at hb;have hc:=hC.cell x hx0;have hf:=hC.out.frozen x;clear hxe;go_wp2;go_roundw
         case rel=>exact⟨k+1,by omega,by go_num,hC.set x 4 (fun j _=>Yqx k hlt x hxh.out j),hB.set Zo _ _⟩
         case measure=>simp[intOf]; omega
        ·obtain rfl:k=10:=by omega
         have hT:=hC.table;obtain⟨c0,hR,hRs⟩:=hC.slot;clear hB;go_wp2_with (first | (refine wpList_load_row rfl 130 (.tmp 1) rfl (w.heap.size+1) rfl 130 JI (0,0) _ hT Tryz.underlying130 rfl Yhl ?_) | (refine wpList_store_row rfl 130 (.tmp 0) (.tmp 44) rfl w.heap.size JI rfl rfl 130 c0 hR Yhl hRs YnS ?_));refine bodyPost_ret (v:=.agg JI) ?_ rfl ⟨rfl,below_setRow hC.below _ (Nat.le_refl _) _⟩;exact results_cell_row rfl _ _ w.heap.size 130 JI (0,0) _ rfl (setRow_heap _ _ c0 _ _ _ hR) Tryz.underlying130 rfl Yhl
end Go.Proofs.YteamjdmhdfjopaaGreatDoor
