/- A part of the proof; it holds the texts Scan Strip (names and blanks shortened). -/
import Derived.Test.YteamjdmhdfjopaaGreatDoorC31
import Derived.Test.YteamjdmhdfjopaaGreatDoorC12
import Derived.Test.YteamjdmhdfjopaaGreatDoorC21
namespace Go.Proofs.YteamjdmhdfjopaaGreatDoor
open Go.RowKit
set_option maxRecDepth 100000
set_option maxHeartbeats 8000000
set_option linter.unusedVariables false
set_option linter.unusedSimpArgs false
set_option linter.unnecessarySimpa false
def YqH (_s:ByteArray)(w:World)(R:Ydr)(e:Ending)(W':World):Prop:=
 Below w.heap.size w W'/\match R with
 |.bad c x=>e= .returned (.tuple #[.slice none 0 0,.int .i64 x,.int .i64 c])
 |.ok l _=>∃vo,e= .returned (.tuple #[vo,.int .i64 0,.int .i64 0])/\W'.ownsRow w.heap.size 136 3 vo l.length (Y4 l)/\(vo= .slice none 0 0↔l=[])
theorem YkR (s:ByteArray)(m:Int)(w:World)(hs:s.size<=40000)(hm:w.cell? ⟨2,0,none⟩=some (.int .i64 m))(hE:ErrT w):
 Calls Tryz.prog 33 #[.string s] w (YqH s w (Jr s)):=by
 have hg:2<w.heap.size:=World.block_lt_of_cell? w _ hm;have hgE:3<w.heap.size:=World.block_lt_of_cell? w _ hE;have hS:=Yj3 s m w hs hg hm;generalize Jr s=R at hS⊢;go_enter Tryz.func33,Tryz.ntmps33;go_wp2_with fail;refine hS.mono ?_;intro e w1 hP;cases R with
 |
  bad c x=>
  obtain⟨b,k,rfl,hk,hb⟩:=hP;go_wp2_with fail;refine(YfP k x c w1 ((hb.cell (p:=⟨3,0,none⟩) hgE).trans hE) hk).mono ?_;rintro e w2 ⟨rfl,hb2⟩;go_wp2_with fail;go_ret3
  exact⟨hb.trans (hb2.mono hb.size),rfl⟩
 |
  ok l sp=>
  obtain⟨b,v,vo,rfl,hrow,hnil,hA,hb⟩:=hP;go_wp2_with fail;refine(YjO w1).mono ?_;rintro e w2 ⟨rfl,hb2⟩;go_wp2_with fail;go_ret3
  refine⟨hb.trans (hb2.mono hb.size),vo,rfl,(Keep.of_below (S:=fun _=>False) hb2).owns hrow (fun _ _ q=>q),hnil⟩
theorem Yoa (s:ByteArray)(m:Int)(w:World)(hs:s.size<=40000)(hm:w.cell? ⟨2,0,none⟩=some (.int .i64 m))(hE:ErrT w):
 Calls Tryz.prog 32 #[.string s] w (Ypt s w (Jr s)):=by
 have hg:2<w.heap.size:=World.block_lt_of_cell? w _ hm;have hgE:3<w.heap.size:=World.block_lt_of_cell? w _ hE;have hS:=Yj3 s m w hs hg hm;have hcode:=fun c x=>YeR (s:=s) (c:=c) (x:=x);have hsp:=fun l sp=>Yli (s:=s) (l:=l) (sp:=sp);generalize Jr s=R at hS hcode hsp⊢;have HE:Hid (ErrT w):=hE;clear hE hm;go_enter Tryz.func32,Tryz.ntmps32;go_wp2_with fail;refine hS.mono ?_;clear hS;intro e w1 hP;cases R with
 |
  bad c x=>
  obtain⟨b,k,rfl,hk,hb⟩:=hP;have hc:=hcode c x rfl;clear hcode hsp;go_wp2_with fail;refine(YfP k x c w1 ((hb.cell (p:=⟨3,0,none⟩) hgE).trans HE.out) hk).mono ?_;rintro e w2 ⟨rfl,hb2⟩;go_wp2;all_goals first
   |(exfalso; omega; done)
   |skip
  go_ret3
  exact⟨hb.trans (hb2.mono hb.size),rfl⟩
 |
  ok l sp=>
  obtain⟨b,v,vo,rfl,hrow,hnil,hA,hb⟩:=hP;have hsp:=hsp l sp rfl;clear hcode hrow hnil;go_wp2_with fail;refine(YjO w1).mono ?_;rintro e w2 ⟨rfl,hb2⟩;have hbs:=hA.row.lt;have h3:=(hb2.cell (p:=⟨b,258,none⟩) hbs).trans hA.row.c3;have hown:=(Keep.of_below (S:=fun _=>False) hb2).owns hA.own (fun _ _ q=>q);have hfew:=hA.few;have hbw2:b<w2.heap.size:=Nat.lt_of_lt_of_le hbs hb2.size;have HB2:Hid (Below w.heap.size w w2):=hb.trans (hb2.mono hb.size);clear hb2 hb hA;obtain⟨cap,W3,hcv,hO,hb3,hz3⟩:=open_bytes s w2;have h33:=(hb3.cell (p:=⟨b,258,none⟩) hbw2).trans h3;have HB3:Hid (Below w2.heap.size w2 W3):=hb3;have HO:Hid (YaW w2.heap.size (bu s) s.size W3):=hO;have HSP:Hid (∀p∈sp,p.2<=s.size):=hsp;clear hb3 hO hsp;rcases hown.2 with⟨rfl,hn0⟩ | ⟨g,cp,cur,rfl,hgB,hgh,_⟩
  ·obtain rfl:sp=[]:=List.length_eq_zero_iff.1 hn0;have hcl:=Yfr s w2.heap.size cap W3 HO.out;clear hown hfew;go_wp2;go_loopw [36] (fun i wr=>i= .int .i64 0/\wr=W3) (fun i _=>0)
   case atStart=>exact⟨rfl,rfl⟩
   case round=>
    obtain⟨rfl,rfl⟩:=hrel;go_wp2;go_ret3
    exact⟨HB2.out.trans (HB3.out.mono HB2.out.size),by show _=Ending.returned (.tuple #[.string (YT s []),.int .i64 0,.int .i64 0]); rw[Ylb]; rfl⟩
  ·have hgl:g<w2.heap.size:=(Zg hgh).1;have HC:Hid (∀k (h:k<sp.length),W3.cell? ⟨g,k*2,none⟩=some (.int .i64 sp[k].1)/\W3.cell? ⟨g,k*2+1,none⟩=some (.int .i64 sp[k].2)):=Zh fun k h=>by
    obtain⟨a,b⟩:=sp_at sp k h;exact⟨((HB3.out.cell (p:=⟨g,k*2,none⟩) hgl).trans (hown.cellAt _ Zo)).trans a,((HB3.out.cell (p:=⟨g,k*2+1,none⟩) hgl).trans (hown.cellAt _ Zo)).trans b⟩
   have hll:sp.length<=40000:=Zo;clear hown hfew hgh;go_wp2;go_loopw [36] (fun i wr=>∃k:Nat,k<=sp.length/\i= .int .i64 k/\Hid (YaW w2.heap.size (blank s (sp.take k)) s.size wr)/\Hid (Below w2.heap.size w2 wr)/\w2.heap.size<wr.heap.size/\Hid (∀k,wr.cell? ⟨g,k,none⟩=W3.cell? ⟨g,k,none⟩)) (fun i _=>sp.length - (intOf i).toNat)
   case atStart=>exact⟨0,Nat.zero_le _,rfl,Zh (by rw[List.take_zero]; exact HO.out.congr fun x _=>YnW s x),HB3,hz3,Zh fun _=>rfl⟩
   case round=>
    obtain⟨k,hk,rfl,HOk,HBk,hzk,HGk⟩:=hrel;by_cases hlt:k<sp.length
    ·have l0:decide ((k:Int)<(sp.length:Int))=true:=Zt;obtain⟨q0,q1⟩:=HC.out k hlt;have r0:=(HGk.out (k*2)).trans q0;have r1:=(HGk.out (k*2+1)).trans q1;clear q0 q1;have hle:=HSP.out _ (List.getElem_mem hlt);have HST:Hid (sp.take (k+1)=sp.take k++[sp[k]]):=Zh (List.take_append_getElem hlt).symm;generalize sp[k]=y at r0 r1 hle HST;obtain⟨a,e⟩:=y;dsimp only at r0 r1 hle;have wk:IntKind.i64.wrap ((k:Int)+1)=k+1:=IntWalk.i64_in _ Zo;obtain⟨wo,rfl⟩:∃wo:World,wo=wr:=⟨_,rfl⟩;have HA:Hid (YaW w2.heap.size (blank s (sp.take k++[(a,a)])) s.size wo):=Zh (HOk.out.congr fun x _=>YjG s _ a x);go_wp2;go_loopw [13] (fun i wr=>∃x:Nat,a<=x/\(x<=e\/x=a)/\i= .int .i64 x/\Hid (YaW w2.heap.size (blank s (sp.take k++[(a,x)])) s.size wr)/\Hid (Below w2.heap.size w2 wr)/\wo.heap.size<wr.heap.size/\
      wr.cell? ⟨wo.heap.size,0,none⟩=some (.int .i64 a)/\wr.cell? ⟨wo.heap.size,1,none⟩=some (.int .i64 e)/\Hid (∀k,wr.cell? ⟨g,k,none⟩=W3.cell? ⟨g,k,none⟩)) (fun i _=>e - (intOf i).toNat)
     case atStart=>
      refine⟨a,Nat.le_refl _,.inr rfl,rfl,Zh ?_,Zh ?_,?_,?_,?_,Zh fun k=>?_⟩
      ·exact HA.out.alloc hzk _
      ·exact HBk.out.trans ((below_alloc1 wo _).mono HBk.out.size)
      ·simp
      ·have:=heap_alloc_new wo (.cells #[.int .i64 a,.int .i64 e] 134);unfold World.cell?; rw[this]; rfl
      ·have:=heap_alloc_new wo (.cells #[.int .i64 a,.int .i64 e] 134);unfold World.cell?; rw[this]; rfl
      ·exact(World.cell?_alloc_lt wo _ ⟨g,k,none⟩ (Nat.lt_of_lt_of_le hgl HBk.out.size)).trans (HGk.out k)
     case round=>
      obtain⟨x,hax,hxe,rfl,HOx,HBx,hzx,i0,i1,HGx⟩:=hrel;by_cases hin:x<e
      ·have l1:decide ((x:Int)<(e:Int))=true:=Zt;have wx:IntKind.i64.wrap ((x:Int)+1)=x+1:=IntWalk.i64_in _ Zo;have l2:decide (x<s.size)=true:=Zt;have hc:=HOx.out.cell x Zo;have hf:=HOx.out.free x Zo;by_cases h10:bu s x=10
       ·have e10:blank s (sp.take k++[(a,x)]) x=10:=(YkL s _ x).2 h10;rw[e10] at hc;go_wp2;go_roundw
        case rel=>
         refine⟨x+1,by omega,.inl Zo,by go_num,Zh (HOx.out.congr fun y hy=>?_),HBx,hzx,i0,i1,HGx⟩;rw[Ygy s _ hax,if_pos h10];split
         ·rename_i h; subst h; exact e10.symm
         ·rfl
        case measure=>simp[intOf]; omega
       ·have e10:¬blank s (sp.take k++[(a,x)]) x=10:=fun q=>h10 ((YkL s _ x).1 q);have nc:(((blank s (sp.take k++[(a,x)]) x).toNat:Int) != 10)=true:=by
         rw[bne_iff_ne]; exact fun q=>e10 (UInt8.toNat_inj.1 (by show _=10; omega))
        generalize((blank s (sp.take k++[(a,x)]) x).toNat:Int)=C at hc nc;go_wp2;go_roundw
        case rel=>
         refine⟨x+1,by omega,.inl Zo,by go_num,Zh (HOx.out.put x Zo 32 (fun y hy=>?_) _ rfl),Zh ?_,?_,?_,?_,Zh fun k=>?_⟩
         ·rw[Ygy s _ hax,if_neg h10]
         ·exact HBx.out.trans ((Keep.of_setCell wr _ _).below HBx.out.size (fun k hk q=>by have:k=w2.heap.size:=q; omega))
         ·simpa using hzx
         ·exact(World.cell?_setCell_other _ _ _ _ (by intro q; have:=congrArg Addr.block q; simp at this; omega)).trans i0
         ·exact(World.cell?_setCell_other _ _ _ _ (by intro q; have:=congrArg Addr.block q; simp at this; omega)).trans i1
         ·exact(World.cell?_setCell_other _ _ _ _ (by intro q; have:=congrArg Addr.block q; simp at this; omega)).trans (HGx.out k)
        case measure=>simp[intOf]; omega
      ·have l1:decide ((x:Int)<(e:Int))=false:=Zf;go_wp2;go_roundw
       case rel=>
        refine⟨k+1,by omega,by go_num,Zh (HOx.out.congr fun y hy=>?_),HBx,by omega,HGx⟩;rw[HST.out,YlG s _ hax hxe hin]
       case measure=>simp[intOf]; omega
    ·have l0:decide ((k:Int)<(sp.length:Int))=false:=Zf;obtain rfl:k=sp.length:=Zo;have HOe:YaW w2.heap.size (bu (YT s sp)) (YT s sp).size wr:=by
      rw[YU];exact HOk.out.congr fun x hx=>by rw[YbW s sp x hx,List.take_length]
     have hcl:=Yfr (YT s sp) w2.heap.size cap wr HOe;rw[YU] at hcl;go_wp2;go_ret3
     exact⟨HB2.out.trans (HBk.out.mono HB2.out.size),rfl⟩
end Go.Proofs.YteamjdmhdfjopaaGreatDoor
