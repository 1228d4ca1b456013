/- A part of the proof; it holds the texts All (names and blanks shortened). -/
import Derived.Test.YteamjdmhdfjopaaGreatDoorProg
import Derived.Test.YteamjdmhdfjopaaGreatDoorC5
import Derived.WalkMore
import Derived.TacticsIn
import Derived.TacticsInMore
import Derived.RegionIn
import Derived.RangeFuncNested
import Derived.RangeFuncLeaves
import Derived.Laws.EntriesVeiled
namespace Go.Proofs.YteamjdmhdfjopaaGreatDoor
open Go.RowKit
set_option maxRecDepth 100000
set_option maxHeartbeats 8000000
set_option linter.unusedVariables false
set_option linter.unusedSimpArgs false
structure It where
 kind:Int
 text:ByteArray
 ao:Option Addr
 n:Nat
 cap:Nat
def itV (x:It):Value:=.agg #[.int .i64 x.kind,.string x.text,.slice x.ao x.n x.cap]
def YbG:Ts->List It->Prop
 |.nil,xs=>xs=[]
 |.cons k t kids rest,xs=>∃ao cap ys zs,xs=⟨k,t,ao,kids.len,cap⟩::(ys++zs)/\YbG kids ys/\YbG rest zs
theorem YdP:∀(l:Ts) (xs:List It),YbG l xs->xs.length=l.nodes
 |.nil,xs,h=>by rw[show xs=[] from h]; rfl
 |
  .cons k t kids rest,xs,⟨ao,cap,ys,zs,e,h1,h2⟩=>by
  rw[e,List.length_cons,List.length_append,YdP kids ys h1,YdP rest zs h2]; rfl
theorem Yit:∀l:Ts,∃xs,YbG l xs
 |.nil=>⟨[],rfl⟩
 |
  .cons k t kids rest=>by
  obtain⟨ys,h1⟩:=Yit kids;obtain⟨zs,h2⟩:=Yit rest;exact⟨_,none,0,ys,zs,rfl,h1,h2⟩
structure KpC (Own:Nat->Prop)(W W':World):Prop where
 size:W.heap.size<=W'.heap.size
 same:∀(k:Nat) (o:Obj),¬Own k->W.heap[k]? =some o->o.isCells=true->W'.heap[k]? =some o
section
variable {Own:Nat->Prop}{A B C:World}
theorem KpC.refl (A:World):KpC Own A A:=⟨Nat.le_refl _,fun _ _ _ h _=>h⟩
theorem KpC.trans (h:KpC Own A B)(k:KpC Own B C):KpC Own A C:=⟨Nat.le_trans h.size k.size,fun i o hi ho hc=>k.same i o hi (h.same i o hi ho hc) hc⟩
theorem KpC.of_keep (h:Keep Own A B):KpC Own A B:=⟨h.size,fun k o hk ho _=>(h.block k (Zg ho).1 hk).trans ho⟩
theorem KpC.of_alloc (A:World)(o:Obj):KpC Own A (A.alloc o):=KpC.of_keep (Keep.of_alloc A o)
theorem KpC.putObj {l:Nat}{o:Obj}(o':Obj)(ho:A.heap[l]? =some o)(hc:o.isCells=false):KpC Own A (A.putObj l o'):=
 ⟨by simp,fun k x _ hx hcx=>by
  by_cases e:k=l
  ·subst e; rw[ho] at hx; cases hx; rw[hc] at hcx; cases hcx
  ·exact(World.putObj_heap_other e).trans hx⟩
theorem KpC.cell (h:KpC Own A B){p:Addr}{v:Value}(hp:¬Own p.block)(hc:A.cell? p=some v):B.cell? p=some v:=by
 obtain⟨o,ho,hco⟩:=cells_of_cell hc;have:=h.same p.block o hp ho hco;rw[<-hc];exact World.cell?_of_block (w:=A) (this.trans ho.symm)
theorem Ts.at_kpC (h:KpC Own A B):∀(l:Ts) (b off:Nat),(¬Own b\/l= .nil)->l.at A (fun k=>¬Own k) b off->l.at B (fun k=>¬Own k) b off
 |.nil,_,_,_,_=>trivial
 |
  .cons k t kids rest,b,off,hS,⟨h0,h1,⟨ao,cap,h2,hkids⟩,hrest⟩=>by
  have hS':¬Own b:=hS.elim id (fun e=>by cases e);exact⟨h.cell hS' h0,h.cell hS' h1,⟨ao,cap,h.cell hS' h2,fun hn=>by
   obtain⟨g,o,e,hSg,hat,hcp⟩:=hkids hn;exact⟨g,o,e,hSg,Ts.at_kpC h kids g o (.inl hSg) hat,hcp⟩⟩,Ts.at_kpC h rest b (off+3) (.inl hS') hrest⟩
theorem TsV.kpC (h:KpC Own A B){v:Value}{l:Ts}(hv:TsV A (fun k=>¬Own k) v l):TsV B (fun k=>¬Own k) v l:=by
 obtain⟨ao,cap,e,hl⟩:=hv;refine⟨ao,cap,e,fun hn=>?_⟩;obtain⟨g,o,e2,hS,hat,hcp⟩:=hl hn;exact⟨g,o,e2,hS,Ts.at_kpC h l g o (.inl hS) hat,hcp⟩
end
def wkF (yb wb:Nat):Value:=.func (.func 222) #[] #[.pointer (some ⟨yb,0,none⟩),.pointer (some ⟨wb,0,none⟩)]
def Ts.each (Pr:Int->ByteArray->Nat->Prop):Ts->Prop
 |.nil=>True
 |.cons k t kids rest=>Pr k t kids.len/\kids.each Pr/\rest.each Pr
theorem Ts.each_all {Pr:Int->ByteArray->Nat->Prop}(h:∀k t n,Pr k t n):∀l:Ts,l.each Pr
 |.nil=>trivial
 |.cons k t kids rest=>⟨h k t _,Ts.each_all h kids,Ts.each_all h rest⟩
structure WkS (Pr:Int->ByteArray->Nat->Prop)(l yb wb:Nat)(Own:Nat->Prop)(J:List It->World->Prop)(T:Ts)(ao:Option Addr)(pre:List It)(B:Nat)(W wr:World)(k:Nat)(rest:Ts)(done:List It):Prop where
 len:k+rest.len=T.len
 tail:rest≠.nil->∃g o,ao=some ⟨g,o,none⟩/\¬Own g/\rest.at wr (fun k=>¬Own k) g (o+k*3)
 its:∀zs,YbG rest zs->YbG T (done++zs)
 count:done.length+rest.nodes=T.nodes
 inv:J (pre++done) wr
 keep:KpC Own W wr
 yc:wr.cell? ⟨yb,0,none⟩=some (.func (.yield l) #[] #[])
 wc:wr.cell? ⟨wb,0,none⟩=some (wkF yb wb)
 size:B<=wr.heap.size
 each:rest.each Pr
def Ypq (Own:Nat->Prop)(J Jx:List It->World->Prop)(T:Ts)(pre:List It)(W:World)(e:Ending)(W':World):Prop:=
 (e= .returned (.bool true)/\∃xs,YbG T xs/\J (pre++xs) W'/\KpC Own W W')\/(e= .returned (.bool false)/\∃q r,YbG T (q++r)/\Jx (pre++q) W')
theorem walk_any (Pr:Int->ByteArray->Nat->Prop)(l yb wb B N:Nat)(Own:Nat->Prop)(J Jx:List It->World->Prop)(hJ:∀s W o,J s W->J s (W.alloc o))(hO:∀k,Own k->k<B)(hyb:¬Own yb)(hwb:¬Own wb)
 (hY:∀pre x W,J pre W->pre.length<N->Pr x.kind x.text x.n->YieldAt Fence.wide 4 Tryz.prog l #[itV x] W fun e W'=>(e= .returned (.bool true)/\J (pre++[x]) W'/\KpC Own W W')\/(e= .returned (.bool false)/\Jx (pre++[x]) W')):
 ∀(m:Nat) (T:Ts) (v:Value) (pre:List It) (W:World),T.nodes<m->TsV W (fun k=>¬Own k) v T->B<=W.heap.size->W.cell? ⟨yb,0,none⟩=some (.func (.yield l) #[] #[])->W.cell? ⟨wb,0,none⟩=some (wkF yb wb)->J pre W->pre.length+T.nodes<=N->T.nodes<=1000000000000->T.each Pr->
  Calls Tryz.prog 222 #[v,.pointer (some ⟨yb,0,none⟩),.pointer (some ⟨wb,0,none⟩)] W (Ypq Own J Jx T pre W):=by
 intro m;induction m with
 |zero=>intro T v pre W hm; omega
 |
  succ m ih=>
  intro T v pre W hm hT hB hyc hwc h0 hN hbig hea;obtain⟨ao,cap,rfl,htail⟩:=hT;have IH:Hid _:=ih;have HJ:Hid _:=hJ;have HO:Hid _:=hO;have HY:Hid _:=hY;have hlen:=Ts.len_le T;have hFn:∀f,Fence.wide.fn f:=fun _=>trivial;clear ih hJ hO hY;go_enter Tryz.func222,Tryz.ntmps222;go_wp2;go_loopw [9] (fun i wr=>∃(k:Nat) (rest:Ts) (done:List It),i= .int .i64 k/\WkS Pr l yb wb Own J T ao pre B W wr k rest done) (fun i _=>T.len - (intOf i).toNat)
  case atStart=>exact⟨0,T,[],rfl,Nat.zero_add _,TsV.tail0 htail,fun zs h=>h,by simp,by simpa using h0,KpC.refl _,hyc,hwc,hB,hea⟩
  case round=>
   obtain⟨k,rest,done,rfl,hS⟩:=hrel;clear hyc hwc htail hea;cases rest with
   |
    nil=>
    have hk:k=T.len:=by have:=hS.len; simpa[Ts.len] using this
    have l0:decide ((k:Int)<(T.len:Int))=false:=Zf;subst hk;go_wp2;go_ret;exact .inl ⟨rfl,done,by simpa using hS.its [] rfl,hS.inv,hS.keep⟩
   |
    cons kk tt kids rest=>
    have hkl:=hS.len;simp only[Ts.len] at hkl;have l0:decide ((k:Int)<(T.len:Int))=true:=Zt;have l1:decide (k<T.len)=true:=Zt;obtain⟨g,o,rfl,hOg,c0,c1,⟨ao2,cap2,c2,hkids⟩,hrest⟩:=hS.tail (fun q=>by cases q);have hcount:=hS.count;simp only[Ts.nodes] at hcount;have yc:=hS.yc;have wc:=hS.wc;have hz:=hS.size;have HKI:=Zh hkids;have HRE:=Zh hrest;clear hkids hrest;obtain⟨fn,tmps,assign,body,hy,hRd⟩:=HY.out (pre++done) ⟨kk,tt,ao2,kids.len,cap2⟩ (wr.alloc (.cells #[.int .i64 kk,.string tt,.slice ao2 kids.len cap2] 223)) (HJ.out _ _ _ hS.inv) (by rw[List.length_append]; omega) hS.each.1;unfold itV at hy;unfold wkF at wc;have yl:=World.block_lt_of_cell? wr _ yc;have wl:=World.block_lt_of_cell? wr _ wc;dsimp only at yl wl;have HRd:=Zh hRd;clear hRd;refine(wpIn_wide (n:=5)).1 ?_;gi_wp2
    refine HRd.out.mono ?_;clear HRd;rintro e W1 (⟨rfl,hJ1,hK1⟩ | ⟨rfl,hx1⟩)
    ·have hn:=heap_alloc_new wr (.cells #[.int .i64 kk,.string tt,.slice ao2 kids.len cap2] 223);have hnO:¬Own wr.heap.size:=fun q=>by have:=HO.out _ q; omega
     have KA:=KpC.of_alloc (Own:=Own) wr (.cells #[.int .i64 kk,.string tt,.slice ao2 kids.len cap2] 223);have n1:=hK1.same wr.heap.size _ hnO hn rfl;have m2:W1.cell? ⟨wr.heap.size,2,none⟩=some (.slice ao2 kids.len cap2):=by simp[World.cell?,n1]
     have K1:=KA.trans hK1;have wc1:=K1.cell (p:=⟨wb,0,none⟩) hwb wc;have yc1:=K1.cell (p:=⟨yb,0,none⟩) hyb yc;have hkv:TsV W1 (fun k=>¬Own k) (.slice ao2 kids.len cap2) kids:=TsV.kpC K1 ⟨ao2,cap2,rfl,HKI.out⟩;have hI:=IH.out kids _ (pre++done++[⟨kk,tt,ao2,kids.len,cap2⟩]) W1 Zo hkv (by have:=K1.size; omega) yc1 wc1 hJ1 (by rw[List.length_append,List.length_append,List.length_singleton]; omega) Zo hS.each.2.1;have HI:=Zh hI;have K1:=Zh K1;clear hI hK1 KA n1 hn hkv;gi_wp2_with fail
     refine(callsIn_wide.2 HI.out).mono ?_;clear HI;intro e W2 hP;rcases hP with⟨rfl,xs,hxs,hJ2,hK2⟩ | ⟨rfl,q,r,hqr,hx2⟩
     ·have K2:=K1.out.trans hK2;have HN:Hid (WkS Pr l yb wb Own J T (some ⟨g,o,none⟩) pre B W W2 (k+1) rest (done++⟨kk,tt,ao2,kids.len,cap2⟩::xs)):=Zh ⟨by omega,fun _=>⟨g,o,rfl,hOg,by rw[show o+(k+1)*3=o+k*3+3 by omega]; exact Ts.at_kpC K2 rest g _ (.inl hOg) HRE.out⟩,
       fun zs hz=>by have:=hS.its (⟨kk,tt,ao2,kids.len,cap2⟩::(xs++zs)) ⟨ao2,cap2,xs,zs,rfl,hxs,hz⟩; simpa using this,
       by have:=YdP kids xs hxs; simp only[List.length_append,List.length_cons]; omega,by simpa using hJ2,hS.keep.trans K2,K2.cell (p:=⟨yb,0,none⟩) hyb yc,K2.cell (p:=⟨wb,0,none⟩) hwb wc,by have:=K2.size; omega,hS.each.2.2⟩
      clear hJ2 hK2 hxs K2;gi_wp2_with fail
      go_roundw
      case rel=>exact⟨k+1,rest,_,by go_num,HN.out⟩
      case measure=>simp[intOf]; omega
     ·obtain⟨zs,hzs⟩:=Yit rest;have HF:Hid (∃q r,YbG T (q++r)/\Jx (pre++q) W2):=Zh ⟨done++⟨kk,tt,ao2,kids.len,cap2⟩::q,r++zs,by
       have:=hS.its (⟨kk,tt,ao2,kids.len,cap2⟩::((q++r)++zs)) ⟨ao2,cap2,q++r,zs,rfl,hqr,hzs⟩;simpa using this,by simpa using hx2⟩
      clear hx2 hqr;gi_wp2_with fail
      go_ret;exact .inr ⟨rfl,HF.out⟩
    ·obtain⟨ys,hys⟩:=Yit kids;obtain⟨zs,hzs⟩:=Yit rest;have HF:Hid (∃q r,YbG T (q++r)/\Jx (pre++q) W1):=Zh ⟨done++[⟨kk,tt,ao2,kids.len,cap2⟩],ys++zs,by
      have:=hS.its (⟨kk,tt,ao2,kids.len,cap2⟩::(ys++zs)) ⟨ao2,cap2,ys,zs,rfl,hys,hzs⟩;simpa using this,by simpa using hx1⟩
     clear hx1;gi_wp2_with fail
     go_ret;exact .inr ⟨rfl,HF.out⟩
theorem YkP (Pr:Int->ByteArray->Nat->Prop)(l lb B:Nat)(Own:Nat->Prop)(J Jx:List It->World->Prop)(T:Ts)(v:Value)(W:World)(hJ:∀s W o,J s W->J s (W.alloc o))(hO:∀k,Own k->k<B)(hlb:¬Own lb)(hbig:T.nodes<=1000000000000)(hea:T.each Pr)
 (hY:∀pre x W,J pre W->pre.length<T.nodes->Pr x.kind x.text x.n->YieldAt Fence.wide 4 Tryz.prog l #[itV x] W fun e W'=>(e= .returned (.bool true)/\J (pre++[x]) W'/\KpC Own W W')\/(e= .returned (.bool false)/\Jx (pre++[x]) W'))
 (hc:W.cell? ⟨lb,0,none⟩=some v)(hT:TsV W (fun k=>¬Own k) v T)(hB:B<=W.heap.size)(h0:J [] W):
 Calls Tryz.prog 221 #[.func (.yield l) #[] #[],.pointer (some ⟨lb,0,none⟩)] W fun e W'=>(∃v,e= .returned v)/\((∃xs,YbG T xs/\J xs W')\/(∃q,(∃r,YbG T (q++r))/\Jx q W')):=by
 obtain⟨ao,cap,rfl⟩:=hT.form;have hl:=World.block_lt_of_cell? W _ hc;dsimp only at hl;have HY:Hid _:=hY;have HJ:Hid _:=hJ;have HO:Hid _:=hO;clear hY hJ hO;go_enter Tryz.func221,Tryz.ntmps221;go_wp2_with fail;have hW0:∃W0,W0=(W.alloc (.cells #[.func (.yield l) #[] #[]] 282)).alloc (.cells #[wkF W.heap.size (W.heap.size+1)] 226):=⟨_,rfl⟩;obtain⟨W0,hW0⟩:=hW0;have n0:=heap_alloc_new W (.cells #[.func (.yield l) #[] #[]] 282);have z0:(W.alloc (.cells #[.func (.yield l) #[] #[]] 282)).heap.size=W.heap.size+1:=Zs;have n1:=heap_alloc_new (W.alloc (.cells #[.func (.yield l) #[] #[]] 282)) (.cells #[wkF W.heap.size (W.heap.size+1)] 226);rw[z0,<-hW0] at n1;have n0':W0.heap[W.heap.size]? =some (.cells #[.func (.yield l) #[] #[]] 282 (0,0)):=by rw[hW0]; exact(Below.heap_alloc _ _ _ Zo).trans n0
 have k0:KpC Own W W0:=by rw[hW0]; exact(KpC.of_alloc W _).trans (KpC.of_alloc _ _)
 have j0:J [] W0:=by rw[hW0]; exact HJ.out _ _ _ (HJ.out _ _ _ h0)
 have y0:W0.cell? ⟨W.heap.size,0,none⟩=some (.func (.yield l) #[] #[]):=by simp[World.cell?,n0']
 have w0:W0.cell? ⟨W.heap.size+1,0,none⟩=some (wkF W.heap.size (W.heap.size+1)):=by simp[World.cell?,n1]
 have hwk:=walk_any Pr l W.heap.size (W.heap.size+1) B T.nodes Own J Jx HJ.out HO.out (fun q=>by have:=HO.out _ q; omega) (fun q=>by have:=HO.out _ q; omega) HY.out (T.nodes+1) T _ [] W0 Zo (TsV.kpC k0 hT) (by have:=k0.size; omega) y0 w0 j0 Zs hbig hea;unfold wkF at hW0;rw[<-hW0];have HW:=Zh hwk;clear hW0 n0 z0 n1 n0' k0 j0 y0 w0 hwk;refine HW.out.mono ?_;intro e W2 hP;rcases hP with⟨rfl,xs,hxs,hJ2,hK2⟩ | ⟨rfl,q,r,hqr,hx2⟩
 ·have HF:Hid (∃xs,YbG T xs/\J xs W2):=Zh ⟨xs,hxs,by simpa using hJ2⟩;clear hJ2 hK2;go_wp2_with fail;go_end0
  exact⟨⟨_,rfl⟩,.inl HF.out⟩
 ·have HF:Hid (∃q,(∃r,YbG T (q++r))/\Jx q W2):=Zh ⟨q,⟨r,hqr⟩,by simpa using hx2⟩;clear hx2 hqr;go_wp2_with fail;go_end0
  exact⟨⟨_,rfl⟩,.inr HF.out⟩
theorem YjJ (ao:Option Addr)(n cap:Nat)(w:World):
 Calls Tryz.prog 186 #[.slice ao n cap] w fun e w'=>e= .returned (.func (.func 221) #[] #[.pointer (some ⟨w.heap.size,0,none⟩)])/\w'=w.alloc (.cells #[.slice ao n cap] 35):=by
 go_enter Tryz.func186,Tryz.ntmps186;go_wp2;go_ret;exact⟨rfl,rfl⟩
theorem all_stops (lb B:Nat)(Own:Nat->Prop)(T:Ts)(v:Value)(w:World)(hO:∀k,Own k->k<B)(hlb:¬Own lb)(hbig:T.nodes<=1000000000000)(hc:w.cell? ⟨lb,0,none⟩=some v)(hT:TsV w (fun k=>¬Own k) v T)(hB:B<=w.heap.size):
 SeqStopsK Fence.wide 5 Tryz.prog 221 #[.pointer (some ⟨lb,0,none⟩)] (fun x=>#[itV x]) (KpC Own) (YbG T) (fun q=>∃r,YbG T (q++r)) T.nodes w:=by
 intro l J Jx W hW hJ _ hY h0;have hl:=World.block_lt_of_cell? w _ hc;exact callsIn_wide.2 (YkP (fun _ _ _=>True) l lb B Own J Jx T v W (fun s W1 o hs=>hJ s W1 _ none hs (World.grownBy_alloc W1 o none) (fun r e=>by cases e)) hO hlb hbig (Ts.each_all (fun _ _ _=>trivial) T) (fun pre x W h1 h2 _=>hY pre x W h1 h2) ((hW.cell (p:=⟨lb,0,none⟩) hl).trans hc) (hT.below hW (fun k q _=>q)) (Nat.le_trans hB hW.size) h0)
abbrev ItP (Pr:Int->ByteArray->Nat->Prop):={x:It // Pr x.kind x.text x.n}
theorem YlI (Pr:Int->ByteArray->Nat->Prop)(lb B:Nat)(Own:Nat->Prop)(T:Ts)(v:Value)(w:World)(hO:∀k,Own k->k<B)(hlb:¬Own lb)(hbig:T.nodes<=1000000000000)(hea:T.each Pr)(hc:w.cell? ⟨lb,0,none⟩=some v)(hT:TsV w (fun k=>¬Own k) v T)(hB:B<=w.heap.size):
 SeqStopsK Fence.wide 5 Tryz.prog 221 #[.pointer (some ⟨lb,0,none⟩)] (fun x:ItP Pr=>#[itV x.1]) (KpC Own) (fun q=>YbG T (q.map Subtype.val)) (fun q=>∃r,YbG T (q.map Subtype.val++r)) T.nodes w:=by
 intro l J Jx W hW hJ _ hY h0;have hl:=World.block_lt_of_cell? w _ hc;have h:=YkP Pr l lb B Own (fun q W=>∃s:List (ItP Pr),s.map Subtype.val=q/\J s W) (fun q W=>∃s:List (ItP Pr),s.map Subtype.val=q/\Jx s W) T v W
  (fun s W1 o ⟨q,e,hs⟩=>⟨q,e,hJ q W1 _ none hs (World.grownBy_alloc W1 o none) (fun r e=>by cases e)⟩) hO hlb hbig hea
  (fun pre x W ⟨s,e,hs⟩ hlen hp=>by
    have hlen2:s.length<T.nodes:=by rw[<-e,List.length_map] at hlen; exact hlen
    obtain⟨fn,tmps,assign,body,hy,hRd⟩:=hY s ⟨x,hp⟩ W hs hlen2;refine⟨fn,tmps,assign,body,hy,hRd.mono ?_⟩;rintro e' W' (⟨h1,h2,h3⟩ | ⟨h1,h2⟩)
    ·exact .inl ⟨h1,⟨s++[⟨x,hp⟩],by rw[List.map_append,e]; rfl,h2⟩,h3⟩
    ·exact .inr ⟨h1,⟨s++[⟨x,hp⟩],by rw[List.map_append,e]; rfl,h2⟩⟩)
  ((hW.cell (p:=⟨lb,0,none⟩) hl).trans hc) (hT.below hW (fun k q _=>q)) (Nat.le_trans hB hW.size) ⟨[],rfl,h0⟩
 refine callsIn_wide.2 (h.mono ?_);rintro e W' ⟨h1,h2⟩;refine⟨h1,?_⟩;rcases h2 with⟨xs,hx,s,rfl,hs⟩ | ⟨q,⟨r,hr⟩,s,rfl,hs⟩
 ·exact .inl ⟨s,hx,hs⟩
 ·exact .inr ⟨s,⟨r,hr⟩,hs⟩
end Go.Proofs.YteamjdmhdfjopaaGreatDoor
