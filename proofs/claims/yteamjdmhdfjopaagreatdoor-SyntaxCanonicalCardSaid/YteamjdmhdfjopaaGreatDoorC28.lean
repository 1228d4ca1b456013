/- A part of the proof; it holds the texts Toke (names and blanks shortened). -/
import Derived.Test.YteamjdmhdfjopaaGreatDoorC26
import Derived.Test.YteamjdmhdfjopaaGreatDoorC27
namespace Go.Proofs.YteamjdmhdfjopaaGreatDoor
open Go.RowKit
set_option maxRecDepth 100000
set_option maxHeartbeats 8000000
set_option linter.unusedVariables false
set_option linter.unusedSimpArgs false
set_option linter.unnecessarySimpa false
theorem Ymo (x:Nat)(h:x<256):(decide (0<=Lib.indexByte [115,116,101] (x:Int).toNat.toUInt8))=steB x:=by
 have:∀i:Fin 256,(decide (0<=Lib.indexByte [115,116,101] ((i.val:Int)).toNat.toUInt8))=steB i.val:=by decide+kernel
 exact this ⟨x,h⟩
theorem YnQ (x:Nat)(h:x<256):(cls x=2->x≠39/\x≠34)/\(steB x=true->cls x=2)/\(x=45->cls x=0)/\(x=36->cls x=0):=by
 have:∀i:Fin 256,(cls i.val=2->i.val≠39/\i.val≠34)/\(steB i.val=true->cls i.val=2)/\(i.val=45->cls i.val=0)/\(i.val=36->cls i.val=0):=by decide+kernel
 exact this ⟨x,h⟩
theorem Yl7 (B b:Nat)(s:ByteArray)(at_:Nat)(sp:List (Nat×Nat))(v:Value)(w:World)(hs:s.size<=40000)(hw:Yk B b s at_ sp v w)(hlt:at_<s.size)
 (hB:B<=w.heap.size)(hbB:B<=b)(R:TokR)(hR:Hid (tokN s at_=R)):
 Calls Tryz.prog 166 #[.pointer (some ⟨b,0,none⟩)] w (Yfx B b s at_ sp v w R):=by
 have hbs:=hw.row.lt;have hl:decide (at_<s.size)=true:=by simpa using hlt
 have hvl:∀k,v.ownBlock=some k->k<w.heap.size:=fun k e=>by
  obtain⟨c,hc⟩:=Yr hw.own e;obtain⟨h,_⟩:=Zg hc;exact h
 go_enter Tryz.func166,Tryz.ntmps166;go_wp2_with fail;generalize hW:World.alloc _ _=W;have hbel:Below w.heap.size w W:=hW▸(below_alloc1 w _).alloc Zs _;have hsz:W.heap.size=w.heap.size+2:=by subst hW; simp
 have hA:Yk B b s at_ sp v W:=⟨World.rowIs.of_block hw.row (hbel.block _ hbs),(Keep.of_below (S:=fun _=>False) hbel).owns hw.own (fun _ _ q=>q),hw.le,hw.few⟩;have hp:W.cell? ⟨w.heap.size,0,none⟩=some (.pointer (some ⟨b,0,none⟩)):=by
  subst hW;simp[World.cell?,heap_alloc2_old]
 have hc0:=hA.row.c0;have hc1:=hA.row.c1;have hT:=Yk1 (W:=(W.alloc (.cells #[.int .i64 at_] 3)).alloc (.cells #[.int .i64 0,.string ⟨#[]⟩,.int .i64 0] 136)) hw (by subst hW; rfl);clear hW;have hlw:=hA.row.lt;have ha0:=(World.cell?_alloc_lt W (.cells #[.int .i64 0] 3) ⟨b,0,none⟩ hlw).trans hc0;have ha1:=(World.cell?_alloc_lt W (.cells #[.int .i64 0] 3) ⟨b,1,none⟩ hlw).trans hc1;have hap:=(World.cell?_alloc_lt W (.cells #[.int .i64 0] 3) ⟨w.heap.size,0,none⟩ (by show w.heap.size<_; omega)).trans hp;have haq:(W.alloc (.cells #[.int .i64 0] 3)).cell? ⟨W.heap.size,0,none⟩=some (.int .i64 0):=cell_new1 W _ _;have haf:(W.alloc (.cells #[.int .i64 0] 3)).frozen? ⟨W.heap.size,0,none⟩=false:=Yjr W _ _;have hs0:=(World.cell?_alloc_lt W (.cells #[.int .i64 at_] 3) ⟨b,0,none⟩ hlw).trans hc0;have hs1:=(World.cell?_alloc_lt W (.cells #[.int .i64 at_] 3) ⟨b,1,none⟩ hlw).trans hc1;have hsp:=(World.cell?_alloc_lt W (.cells #[.int .i64 at_] 3) ⟨w.heap.size,0,none⟩ (by show w.heap.size<_; omega)).trans hp;have hx1:(s[at_]'hlt).toNat<256:=(s[at_]).toNat_lt;have hx2:((s[at_]'hlt).toNat:Int)<256:=Zo;have HB:Hid (((s[at_]'hlt).toNat:Int)=bt s at_):=Je hlt;go_region
 rename_i K hKK
 refine hKK _ _ ?_;clear hKK;have hC:=Yp0 B b s at_ sp v w R hs hbs hvl;have hB2:=HB.out;generalize(s[at_]'hlt).toNat=x at hx1 HB hB2⊢;obtain⟨f1,f2,f3,f4⟩:=YnQ x hx1;have hst:=Ymo x hx1;have hI:=fun w=>Tryz.strings_IndexByte ⟨#[115,116,101]⟩ (x:Int) w;generalize hix:Lib.indexByte (⟨#[115,116,101]⟩:ByteArray).data.toList (x:Int).toNat.toUInt8=ix at hI;have hst:decide (0<=ix)=steB x:=by rw[<-hix]; exact hst
 rw[hB2] at hst;have hcv:cls x=cls (bt s at_).toNat:=by rw[<-hB2]; rfl
 by_cases q39:(x:Int)=39
 ·exact YlV B b s at_ sp v w _ R x _ ix J7 hC hs hlt hB hbB hx1 HB rfl hbs hvl hT hR hI q39 _ _ _ _ _ _ _ _ _ _ _ _ _
 by_cases q34:(x:Int)=34
 ·exact YlW B b s at_ sp v w _ R x _ ix J7 hC hs hlt hB hbB hx1 HB rfl hbs hvl hT hR hI q34 _ _ _ _ _ _ _ _ _ _ _ _ _
 have hnq:¬((x:Int)=39\/(x:Int)=34):=fun q=>q.elim q39 q34;by_cases c4:cls x=4
 ·exact Yok B b s at_ sp v w _ R x _ ix J7 hC hs hlt hB hbB hx1 HB rfl hbs hvl hT hR hI hnq c4 _ _ _ _ _ _ _ _ _ _ _ _ _
 by_cases hv:steB (bt s at_)=true/\bt s (at_+1)=46
 ·exact YpY B b s at_ sp v w _ R x _ ix J7 hC hs hlt hB hbB hx1 HB rfl hbs hvl hT hR hI hnq (f2 (by rw[hB2]; exact hv.1)) hv (by simpa using hst.trans hv.1) _ _ _ _ _ _ _ _ _ _ _ _ _
 by_cases c2:cls x=2
 ·by_cases hi:0<=ix
  ·have hd:(bt s (at_+1)==46)=false:=by
    have h1:steB (bt s at_)=true:=by rw[<-hst]; simpa using hi
    simpa using fun q=>hv ⟨h1,q⟩
   exact YlZ B b s at_ sp v w _ R x _ ix J7 hC hs hlt hB hbB hx1 HB rfl hbs hvl hT hR hI hnq c2 hv hi hd _ _ _ _ _ _ _ _ _ _ _ _ _
  ·exact Yl0 B b s at_ sp v w _ R x _ ix J7 hC hs hlt hB hbB hx1 HB rfl hbs hvl hT hR hI hnq c2 hv Zo _ _ _ _ _ _ _ _ _ _ _ _ _
 have hi:ix<0:=by
  refine Int.not_le.1 fun q=>c2 (f2 ?_);rw[hB2,<-hst]; simpa using q
 by_cases c3:cls x=3
 ·exact Yom B b s at_ sp v w _ R x _ ix J7 hC hs hlt hB hbB hx1 HB rfl hbs hvl hT hR hI hnq hv hi c3 _ _ _ _ _ _ _ _ _ _ _ _ _
 by_cases q45:(x:Int)=45
 ·have h45:((x:Int)==45)=true:=by simpa using q45
  by_cases hny:cls (bt s (at_+1)).toNat=3
  ·exact Yol B b s at_ sp v w _ R x _ ix J7 hC hs hlt hB hbB hx1 HB rfl hbs hvl hT hR hI hnq hv hi (f3 Zo) h45 hny _ _ _ _ _ _ _ _ _ _ _ _ _
  ·exact YlX B b s at_ sp v w _ R x _ ix J7 hC hs hlt hB hbB hx1 HB rfl hbs hvl hT hR hI hnq hv hi (f3 Zo) h45 hny _ _ _ _ _ _ _ _ _ _ _ _ _
 have n45:((x:Int)==45)=false:=by simpa using q45
 by_cases q36:(x:Int)=36
 ·have h36:((x:Int)==36)=true:=by simpa using q36
  by_cases hny:cls (bt s (at_+1)).toNat=2
  ·exact YlU B b s at_ sp v w _ R x _ ix J7 hC hs hlt hB hbB hx1 HB rfl hbs hvl hT hR hI hnq hv hi (f4 Zo) h36 n45 hny _ _ _ _ _ _ _ _ _ _ _ _ _
  ·exact YlT B b s at_ sp v w _ R x _ ix J7 hC hs hlt hB hbB hx1 HB rfl hbs hvl hT hR hI hnq hv hi (f4 Zo) h36 n45 hny _ _ _ _ _ _ _ _ _ _ _ _ _
 exact YlY B b s at_ sp v w _ R x _ ix J7 hC hs hlt hB hbB hx1 HB rfl hbs hvl hT hR hI hnq (by simpa using c4) (by simpa using c2) (by simpa using c3) (by simpa using q36) hi hv
  (by rw[<-hcv]; rintro(q | q); exact c3 q; exact q45 (hB2.trans q.1)) n45 _ _ _ _ _ _ _ _ _ _ _ _ _
end Go.Proofs.YteamjdmhdfjopaaGreatDoor
