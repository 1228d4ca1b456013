/- A part of the proof; it holds the texts Rfo (names and blanks shortened). -/
import Derived.Test.YteamjdmhdfjopaaGreatDoorM35
import Derived.Test.YteamjdmhdfjopaaGreatDoorM2
import Derived.Test.YteamjdmhdfjopaaGreatDoorM1
import Derived.Test.YteamjdmhdfjopaaGreatDoorM28
import Derived.Test.YteamjdmhdfjopaaGreatDoorM10
import Derived.Test.YteamjdmhdfjopaaGreatDoorM26
namespace Go.Proofs.YteamjdmhdfjopaaGreatDoor
open Go.RowKit
set_option maxRecDepth 100000
set_option maxHeartbeats 8000000
set_option linter.unusedVariables false
set_option linter.unusedSimpArgs false
theorem YjE:(Tryz.prog.info? 163).map (fun i=>(i.zero,i.size,i.bytes))=some (some (.agg #[.int .i64 0,.string ⟨#[]⟩,.int .i64 0]),3,32):=by kernel_rfl
def Ymw (w:World)(R:YdZ)(e:Ending)(W':World):Prop:=
 Below w.heap.size w W'/\match R with
 |.bad c x=>e= .returned (.tuple #[.slice none 0 0,.int .i64 x,.int .i64 c])
 |.ok m _=>∃vo,e= .returned (.tuple #[vo,.int .i64 0,.int .i64 0])/\W'.ownsRow w.heap.size 163 3 vo m.length (Jq m)
theorem YbB (s:ByteArray):∀(n i:Nat) (sp:List (Nat×Nat)) (x:Nat),i<=s.size->Y7 s n i sp= .err x->i<=x/\x<s.size
 |0,i,sp,x,_,h=>by simp[Y7] at h
 |
  n+1,i,sp,x,hi,h=>by
  unfold Y7 at h;split at h
  ·rename_i hlt
   split at h
   ·have:=YbB s n _ _ x hlt h; omega
   ·split at h
    ·rename_i hst
     have hl:=Ymd hlt hst;have:=YbB s n _ _ x hl.2 h; omega
    ·split at h
     ·split at h
      ·cases h; omega
      ·rename_i e he
       have hl:=Yih s _ _ _ he;have:=YbB s n _ _ x hl.2 h; omega
     ·cases h
  ·cases h
theorem Yjf {s:ByteArray}{i x:Nat}{c:Int}(hi:i<s.size)(h:tokN s i= .bad c x):i<=x/\x<=s.size:=by
 have hn:∀{k:Int} {a b:Nat},i<=b->b<=s.size->near s k a b= .bad c x->i<=x/\x<=s.size:=fun h1 h2 h=>by
  unfold near at h; split at h
  ·cases h; exact⟨h1,h2⟩
  ·cases h
 unfold tokN at h;split at h
 ·unfold quoR at h;split at h
  ·cases h; omega
  ·split at h
   ·cases h
   ·split at h
    ·cases h; omega
    ·cases h
 ·split at h
  ·cases h
  ·split at h
   ·rename_i hv
    have h1:i+1<s.size:=Nat.lt_of_not_le fun q=>by rw[JU q] at hv; exact absurd hv.2 Zd
    have hl:=YI s (inner JI) (i+2) Zo;split at h
    ·cases h; omega
    ·exact hn Zo hl.2 h
   ·split at h
    ·have hl:=YI s (inner Yj) i Zo;split at h
     ·cases h; omega
     ·exact hn hl.1 hl.2 h
    ·split at h
     ·have hl:=YI s (fun c=>cls c.toNat==3) (i+1) Zo;split at h
      ·exact hn (by unfold digE; omega) (by unfold digE; omega) h
      ·cases h; omega
     ·split at h
      ·have hl:=YI s (inner Yj) (i+1) Zo;generalize hE:(if cls (bt s (i+1)).toNat=2 then Yo s (inner Yj) (i+1) else i+1)=E at h;have hE2:i<=E/\E<=s.size:=by subst hE; split<;>omega
       split at h
       ·exact hn hE2.1 hE2.2 h
       ·cases h; omega
      ·cases h; omega
def Aft (s:ByteArray)(k:Nat)(acc:List Tk)(R:YdZ):Prop:=∃n sp,s.size - k<=n/\((k=s.size/\R= .ok acc sp)\/(k<s.size/\(∀c x,tokN s k= .bad c x->R= .bad c x)/\∀kind text fin,tokN s k= .ok kind text fin->Yau s n fin sp (acc++[⟨kind,text,k⟩])=R))
theorem YgO {s:ByteArray}{n i:Nat}{sp:List (Nat×Nat)}{acc:List Tk}{R:YdZ}(hi:i<=s.size)(hn:s.size - i<n)(h:Yau s n i sp acc=R):
 ∃X A C:Int,JZ s (X,A,C) i/\∃k:Nat,X=k/\i<=k/\k<=s.size/\((C=0/\A=0/\Aft s k acc R)\/(C=42/\A=k/\R= .bad 42 k)):=by
 obtain⟨n,rfl⟩:∃m,n=m+1:=⟨n - 1,by omega⟩;cases hs:Y7 s (s.size+1) i sp with
 |
  err x=>
  have hx:=YbB s _ _ _ _ hi hs;exact⟨x,x,42,⟨s.size+1,sp,by omega,by rw[hs]; rfl⟩,x,rfl,hx.1,by omega,.inr ⟨rfl,rfl,Yiw h hs⟩⟩
 |
  ok j sp'=>
  have hj:=YcO s _ _ _ _ _ hi hs;refine⟨j,0,0,⟨s.size+1,sp,by omega,by rw[hs]; rfl⟩,j,rfl,hj.1,hj.2,.inl ⟨rfl,rfl,n,sp',by omega,?_⟩⟩;by_cases hjs:j=s.size
  ·exact .inl ⟨hjs,Yiv h hs hjs⟩
  ·exact .inr ⟨by omega,fun c x ht=>Yix h hs hjs ht,fun kind text fin ht=>YgM h hs hjs ht⟩
structure RsW (w:World)(p:Nat)(acc:List Tk)(A C:Int)(vv:Value)(wr:World):Prop where
 below:Below w.heap.size w wr
 err:wr.heap[p]? =some (.cells (Yf A C) 211 (0,0))
 own:wr.ownsRow w.heap.size 163 3 vv acc.length (Jq acc)
theorem RsW.keep {w wr w1:World}{p:Nat}{acc:List Tk}{A C:Int}{vv:Value}(h:RsW w p acc A C vv wr)(hb:Below wr.heap.size wr w1):RsW w p acc A C vv w1:=
 ⟨h.below.trans (hb.mono h.below.size),(hb.block _ (Zg h.err).1).trans h.err,(Keep.of_below (S:=fun _=>False) hb).owns h.own (fun _ _ q=>q)⟩
theorem RsW.setE {w wr:World}{p:Nat}{acc:List Tk}{A C A' C':Int}{vv:Value}(h:RsW w p acc A C vv wr)(hp:w.heap.size<=p):RsW w p acc A' C' vv (wr.setRow p (Yf A' C')):=by
 have hk:Keep (fun k=>k=p) wr (wr.setRow p (Yf A' C')):=⟨rfl,rfl,rfl,by simp,fun k _ n=>setRow_other _ _ _ _ n⟩;refine⟨h.below.trans (hk.below h.below.size (fun k hk e=>by omega)),setRow_heap _ _ _ _ _ _ h.err,hk.owns h.own (fun k hk e=>?_)⟩;obtain⟨c,hc⟩:=Yt h.own hk;rw[e,h.err] at hc;cases hc
theorem RsW.setG {w wr:World}{p g:Nat}{acc:List Tk}{A C:Int}{vv:Value}(h:RsW w p acc A C vv wr)(hg:p≠g)(ho:∀k,vv.ownBlock=some k->k≠g)(hw:w.heap.size<=g)(cs:Array Value):RsW w p acc A C vv (wr.setRow g cs):=by
 have hk:Keep (fun k=>k=g) wr (wr.setRow g cs):=⟨rfl,rfl,rfl,by simp,fun k _ n=>setRow_other _ _ _ _ n⟩;exact⟨h.below.trans (hk.below h.below.size (fun k hk e=>by omega)),(setRow_other _ _ _ _ hg).trans h.err,hk.owns h.own (fun k hk e=>ho k hk e)⟩
theorem RsW.c0 {w wr:World}{p:Nat}{acc:List Tk}{A C:Int}{vv:Value}(h:RsW w p acc A C vv wr):wr.cell? ⟨p,0,none⟩=some (.int .i64 A):=by simp[World.cell?,h.err,Yf]
theorem RsW.c1 {w wr:World}{p:Nat}{acc:List Tk}{A C:Int}{vv:Value}(h:RsW w p acc A C vv wr):wr.cell? ⟨p,1,none⟩=some (.int .i64 C):=by simp[World.cell?,h.err,Yf]
theorem RsW.push {w U w5:World}{o:Obj}{p gg cap3:Nat}{acc:List Tk}{A C:Int}{vv:Value}(h:RsW w p acc A C vv U)(x:Tk)
 (h1:w5.ownsRow w.heap.size 163 3 (.slice (some ⟨gg,0,none⟩) (acc.length+1) cap3) (acc.length+1) (Jq acc++[.int .i64 x.kind,.string x.text,.int .i64 x.at_]))(hg:(U.alloc o).grownBy w5 vv.ownBlock):
 RsW w p (acc++[x]) A C (.slice (some ⟨gg,0,none⟩) (acc.length+1) cap3) w5:=by
 have hs:=h.below.size;have hpl:=(Zg h.err).1;refine⟨(h.below.alloc hs o).grown hg (by simp; omega) (fun k hk=>(h.own.lt k hk).1),?_,?_⟩
 ·refine(hg.block p (by simp; omega) (fun e=>?_)).trans ((Below.heap_alloc U o p hpl).trans h.err);obtain⟨c,hc⟩:=Yt h.own e.symm;rw[h.err] at hc; cases hc
 ·rw[List.length_append,List.length_singleton,YdP]; exact h1
theorem rt_c {U:World}{g:Nat}{k a:Int}{t:ByteArray}{ty:TypeId}(h:U.heap[g]? =some (.cells (Yi k t a) ty (0,0))):
 U.cell? ⟨g,0,none⟩=some (.int .i64 k)/\U.cell? ⟨g,1,none⟩=some (.string t)/\U.cell? ⟨g,2,none⟩=some (.int .i64 a):=by simp[World.cell?,h,Yi]
def errM (p:Nat)(w:World):Nat:=match w.cell? ⟨p,1,none⟩ with
 |some (.int _ c)=>if c=0 then 1 else 0
 |_=>0
theorem RsW.errM {w wr:World}{p:Nat}{acc:List Tk}{A C:Int}{vv:Value}(h:RsW w p acc A C vv wr):errM p wr=if C=0 then 1 else 0:=by
 unfold Go.Proofs.YteamjdmhdfjopaaGreatDoor.errM;have:wr.cell? ⟨p,1,none⟩=some (.int .i64 C):=by simp[World.cell?,h.err,Yf]
 rw[this]
theorem YkQ (s:ByteArray)(w:World)(hs:s.size<=40000):
 Calls Tryz.prog 98 #[.string s] w (Ymw w (Yax s)):=by
 have hT:Yau s (s.size+1) 0 [] []=Yax s:=by unfold Yax; rw[if_neg Zo]
 obtain⟨X,A,C,hSk,k0,rfl,hk0,hk1,hst⟩:=YgO (Nat.zero_le _) Zo hT;generalize Yax s=R at hst;have hS0:=fun w=>Yg8 s 0 w Zo (Nat.zero_le _) k0 A C hSk;have HST:=Zh hst;have d0:decide ((40000:Int)<(s.size:Int))=false:=Zf;obtain⟨i0,hi0,hz0,hz1,hz2⟩:=info_parts YjE;clear hT hSk hst;go_enter Tryz.func98,Tryz.ntmps98;go_wp2_with fail;refine(hS0 _).mono ?_;rintro e w1 ⟨rfl,hb1⟩;clear hS0;have hZ1:=(hb1.block w.heap.size Zs).trans (heap_alloc_new w (.cells #[] 163));have HB1:Hid (Below w.heap.size w w1):=Zh ((below_alloc1 w _).trans (hb1.mono Zs));have hw1:w.heap.size<w1.heap.size:=(Zg hZ1).1;have HW0:Hid (RsW w w1.heap.size [] A C (.slice (some ⟨w.heap.size,0,none⟩) 0 0) (w1.alloc (.cells (Yf A C) 211))):=Zh ⟨HB1.out.alloc Zo _,heap_alloc_new _ _,⟨rfl,.inr ⟨_,0,#[],rfl,Nat.le_refl _,(Below.heap_alloc _ _ _ hw1).trans hZ1,by simp[Jq,maxLen]⟩⟩⟩;clear hb1 hZ1;go_wp2_with (refine YbQ rfl 211 (.tmp 7) (.tmp 17) rfl (Yf A C) 211 (Yf 0 0) rfl rfl (Jt _ rfl) rfl (YJ _ _) ?_);have HS0:Hid ((C=0/\Aft s k0 [] R)\/(¬C=0/\∃x:Nat,A=x/\R= .bad C x)):=Zh (by
  rcases HST.out with⟨h1,_,h3⟩ | ⟨h1,h2,h3⟩
  ·exact .inl ⟨h1,h3⟩
  ·exact .inr ⟨by omega,k0,h2,by rw[h1]; exact h3⟩)
 clear HST;generalize hp:w1.heap.size=p at*;clear hp;go_frame
 go_loopw [6,5] (fun x v5 wr=>∃(k:Nat) (acc:List Tk) (vv:Value) (A C:Int),k<=s.size/\x= .int .i64 k/\vv=v5/\acc.length<=k/\Hid (RsW w p acc A C vv wr)/\Hid ((C=0/\Aft s k acc R)\/(¬C=0/\∃x:Nat,A=x/\R= .bad C x))) (fun x _ wr=>2*(s.size - (intOf x).toNat)+errM p wr)
 case atStart=>exact⟨k0,[],_,A,C,hk1,rfl,rfl,by simp,HW0,HS0⟩
 case round=>
  clear HW0 HS0 HB1;obtain⟨k,acc,vv,A,C,hk,rfl,rfl,hal,HW,HS⟩:=hrel;have a0:wr.cell? ⟨p,0,none⟩=some (.int .i64 A):=by simp[World.cell?,HW.out.err,Yf]
  have a1:wr.cell? ⟨p,1,none⟩=some (.int .i64 C):=by simp[World.cell?,HW.out.err,Yf]
  have hpw:p<wr.heap.size:=(Zg HW.out.err).1;have hME:=HW.out.errM;rcases HS.out with⟨rfl,hAft⟩ | ⟨hC,x,rfl,hR⟩
  ·obtain⟨n,sp,hn,hA⟩:=hAft;rcases hA with⟨rfl,hR⟩ | ⟨hkl,hbad,hok⟩
   ·have HR:=Zh hR;have l1:decide (s.size<s.size)=false:=Zf;clear hR HS hME;go_wp2;go_ret3
    exact⟨HW.out.below,by rw[HR.out]; exact⟨_,rfl,HW.out.own⟩⟩
   ·have l1:decide (k<s.size)=true:=decide_eq_true hkl;have hO:=fun w=>one_any s k w Zo hkl;have hbg:=fun c x (h:tokN s k= .bad c x)=>Yjf hkl h;have hcd:=fun c x (h:tokN s k= .bad c x)=>YiA h;have hfn:=fun kind text fin (h:tokN s k= .ok kind text fin)=>Yiy hkl h;have hwp:w.heap.size<=p:=Zo;have hvg:∀j,vv.ownBlock=some j->j≠wr.heap.size:=fun j hj=>by have:=(HW.out.own.lt j hj).2; omega
    have hpg:p≠wr.heap.size:=Zo;have hwg:w.heap.size<=wr.heap.size:=Zo;cases ht:tokN s k with
    |
     bad c x=>
     have HR:=Zh (hbad c x ht);obtain⟨hx1,hx2⟩:=hbg c x ht;have hc:=hcd c x ht;rw[ht] at hO;unfold oneV YgP YmU errOf at hO;have hcb:(c==0)=false:=beq_eq_false_iff_ne.2 hc;have hcn:(c != 0)=true:=by simpa using hc
     clear hbad hok hbg hcd hfn ht HS;go_wp2_with fail;refine(hO _).mono ?_;rintro e w2 ⟨rfl,hb2⟩;have hG:w2.heap[wr.heap.size]? =some (.cells rTok 163 (0,0)):=(hb2.block wr.heap.size Zs).trans (heap_alloc_new wr _);have HW2:Hid (RsW w p acc A 0 vv w2):=Zh ((HW.out.keep (below_alloc1 wr _)).keep hb2);clear hO hb2 a0 a1;go_wp2_with (first | (refine wpList_store_row rfl 163 (.tmp 8) (.tmp 31) rfl wr.heap.size (Yi 0 ⟨#[]⟩ 0) rfl rfl 163 rTok hG (Yas _ rfl) rfl (YN _ _ _) ?_) | (refine wpList_store_row rfl 211 (.tmp 7) (.tmp 33) rfl p (Yf x c) rfl rfl 211 (Yf A 0) (by exact(setRow_other _ _ _ _ hpg).trans HW2.out.err) (Jt _ rfl) rfl (YJ _ _) ?_; generalize hU:World.setRow (World.setRow _ _ _) _ _=U; have HWU:Hid (RsW w p acc _ _ vv U):=Zh (hU▸(HW2.out.setG hpg hvg hwg (Yi 0 ⟨#[]⟩ 0)).setE (A':=(x)) (C':=(c)) hwp); have hGU:U.heap[wr.heap.size]? =some (.cells (Yi 0 ⟨#[]⟩ 0) 163 (0,0)):=hU▸((setRow_other _ _ _ _ (Ne.symm hpg)).trans (setRow_heap _ _ _ _ _ _ hG)); have u0:=RsW.c0 HWU.out; have u1:=RsW.c1 HWU.out; clear hU));go_roundw
     case rel=>exact⟨x,acc,_,x,c,hx2,rfl,rfl,by omega,HWU,Zh (.inr ⟨hc,x,rfl,HR.out⟩)⟩
     case measure=>have h1:=HWU.out.errM; rw[if_neg hc] at h1; rw[h1,hME]; simp[intOf]; omega
    |
     ok kind text fin=>
     have hf:=hfn kind text fin ht;obtain⟨X2,A2,C2,hSk2,k2,rfl,hk2a,hk2b,hst2⟩:=YgO hf.2 Zo (hok kind text fin ht);have hS2:=fun w=>Yg8 s fin w Zo hf.2 k2 A2 C2 hSk2;have HS2:Hid ((C2=0/\Aft s k2 (acc++[⟨kind,text,k⟩]) R)\/(¬C2=0/\∃x:Nat,A2=x/\R= .bad C2 x)):=Zh (by
      rcases hst2 with⟨h1,_,h3⟩ | ⟨h1,h2,h3⟩
      ·exact .inl ⟨h1,h3⟩
      ·exact .inr ⟨by omega,k2,h2,by rw[h1]; exact h3⟩)
     rw[ht] at hO;unfold oneV YgP YmU errOf at hO;clear hbad hok hbg hcd hfn ht HS hSk2 hst2;go_wp2_with fail;refine(hO _).mono ?_;rintro e w2 ⟨rfl,hb2⟩;have hG:w2.heap[wr.heap.size]? =some (.cells rTok 163 (0,0)):=(hb2.block wr.heap.size Zs).trans (heap_alloc_new wr _);have HW2:Hid (RsW w p acc A 0 vv w2):=Zh ((HW.out.keep (below_alloc1 wr _)).keep hb2);clear hO hb2 a0 a1;go_wp2_with (first | (refine wpList_store_row rfl 163 (.tmp 8) (.tmp 31) rfl wr.heap.size (Yi kind text k) rfl rfl 163 rTok hG (Yas _ rfl) rfl (YN _ _ _) ?_) | (refine wpList_store_row rfl 211 (.tmp 7) (.tmp 33) rfl p (Yf 0 0) rfl rfl 211 (Yf A 0) (by exact(setRow_other _ _ _ _ hpg).trans HW2.out.err) (Jt _ rfl) rfl (YJ _ _) ?_; generalize hU:World.setRow (World.setRow _ _ _) _ _=U; have HWU:Hid (RsW w p acc _ _ vv U):=Zh (hU▸(HW2.out.setG hpg hvg hwg (Yi kind text k)).setE (A':=0) (C':=0) hwp); have hGU:U.heap[wr.heap.size]? =some (.cells (Yi kind text k) 163 (0,0)):=hU▸((setRow_other _ _ _ _ (Ne.symm hpg)).trans (setRow_heap _ _ _ _ _ _ hG)); have u0:=RsW.c0 HWU.out; have u1:=RsW.c1 HWU.out; obtain⟨t0,t1,t2⟩:=rt_c hGU; have hUz:=HWU.out.below.size; clear hU) | (at_builtin; refine wpList_append_lies _ Zr _ _ _ Zr w.heap.size 163 i0 _ 3 32 Tryz.underlying83 hi0 hz0 hz1 hz2 Zr Zo _ acc.length (Jq acc) Zr (HWU.out.own.alloc _) ⟨U.heap.size,0,none⟩ 1 1 [.int .i64 kind,.string text,.int .i64 k] Zr Zr (World.news_of_block (cs:=#[.int .i64 kind,.string text,.int .i64 k]) (t:=163) (fr:=(0,0)) (heap_alloc_new _ _)) (by simp[Value.oneCell']) Zo (by unfold maxLen; omega) Zo (by simp; omega) _ Zr ?_; intro gg cap3 w5 hown1 hgrow hat hlt9; have HW5:=Zh (HWU.out.push ⟨kind,text,k⟩ hown1 hgrow); clear hgrow hown1 hat hlt9));refine(hS2 _).mono ?_;rintro e w6 ⟨rfl,hb6⟩;have HW6:=Zh (HW5.out.keep hb6);clear hS2 hb6;go_wp2_with (refine wpList_store_row rfl 211 (.tmp 7) (.tmp 46) rfl p (Yf A2 C2) rfl rfl 211 (Yf 0 0) HW6.out.err (Jt _ rfl) rfl (YJ _ _) ?_);have HW7:=Zh (HW6.out.setE (A':=A2) (C':=C2) hwp);simp only[Act.put];go_roundw
     case rel=>exact⟨k2,_,_,A2,C2,hk2b,rfl,rfl,by rw[List.length_append,List.length_singleton]; omega,HW7,HS2⟩
     case measure=>have h1:=HW7.out.errM; rw[h1,hME]; simp[intOf]; split<;>omega
  ·have HR:=Zh hR;have hCb:(C==0)=false:=beq_eq_false_iff_ne.2 hC;have hCn:(C != 0)=true:=by simpa using hC
   clear hR hC HS hME;go_wp2;go_quiet (fail)
   go_wp2;go_ret3
   exact⟨below_drewN HW.out.below _,by rw[HR.out]; rfl⟩
end Go.Proofs.YteamjdmhdfjopaaGreatDoor
