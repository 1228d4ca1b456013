/- A part of the proof; it holds the texts Skip Stp Bx (names and blanks shortened). -/
import Derived.Test.YteamjdmhdfjopaaGreatDoorM9
import Derived.Test.YteamjdmhdfjopaaGreatDoorM1
import Derived.Test.YteamjdmhdfjopaaGreatDoorM2
import Derived.Deep.DeepCutAuto
import Derived.Deep.CutBlock
import Derived.Lib.ConvBytes
import Derived.Laws.IdiomStrings
namespace Go.Proofs.YteamjdmhdfjopaaGreatDoor
open Go.RowKit
set_option maxRecDepth 100000
set_option maxHeartbeats 8000000
set_option linter.unusedVariables false
set_option linter.unusedSimpArgs false
theorem Ylt:(Tryz.prog.info? 134).map (fun i=>(i.zero,i.size,i.bytes))=some (some (.agg #[.int .i64 0,.int .i64 0]),2,16):=by kernel_rfl
def YcN (sp:List (Nat×Nat)):List Value:=sp.flatMap fun p=>[.int .i64 p.1,.int .i64 p.2]
structure Yp (B b:Nat)(s:ByteArray)(at_:Nat)(sp:List (Nat×Nat))(v:Value)(w:World):Prop where
 row:YF b s at_ v w
 own:w.ownsRow B 134 2 v sp.length (YcN sp)
 le:at_<=s.size
 few:sp.length<=at_
def Yl (b:Nat)(v:Value)(w w':World):Prop:=Keep (fun k=>k=b\/v.ownBlock=some k) w w'
def atOf (b:Nat)(w:World):Nat:=match w.cell? ⟨b,1,none⟩ with | some (.int _ n)=>n.toNat | _=>0
theorem YF.atOf {b:Nat}{s:ByteArray}{at_:Nat}{v:Value}{w:World}(h:YF b s at_ v w):atOf b w=at_:=by
 unfold Proofs.YteamjdmhdfjopaaGreatDoor.atOf; rw[h.c1]; simp
theorem Yp.drewN {B b:Nat}{s:ByteArray}{at_:Nat}{sp:List (Nat×Nat)}{v:Value}{w:World}(h:Yp B b s at_ sp v w)(n:Nat):Yp B b s at_ sp v (w.drewN n):=⟨h.row.drewN n,h.own,h.le,h.few⟩
theorem Yp.apart {B b:Nat}{s:ByteArray}{at_:Nat}{sp:List (Nat×Nat)}{v:Value}{w:World}(h:Yp B b s at_ sp v w):v.ownBlock≠some b:=by
 intro e;obtain⟨c,hc⟩:=Yt h.own e;obtain⟨d,hd,_⟩:=h.row;rw[hc] at hd; cases hd
theorem Yp.set1 {B b:Nat}{s:ByteArray}{at_:Nat}{sp:List (Nat×Nat)}{v:Value}{w:World}(h:Yp B b s at_ sp v w)(at':Nat)(h1:at'<=s.size)(h2:at_<=at'):Yp B b s at' sp v (w.setCell ⟨b,1,none⟩ (.int .i64 at')):=
 ⟨h.row.set1 at',(Keep.of_setCell w ⟨b,1,none⟩ _).owns h.own (fun k hk e=>h.apart (by rw[hk,e])),h1,by have:=h.few; omega⟩
theorem Yl.drewN {b:Nat}{v:Value}{w wr:World}(h:Yl b v w wr)(n:Nat):Yl b v w (wr.drewN n):=Keep.trans h (Keep.of_drewN (S:=fun _=>False) _ _) (fun _ _ q=>q.elim)
theorem Yl.set {b:Nat}{v:Value}{w wr:World}(h:Yl b v w wr)(o:Nat)(u:Value):Yl b v w (wr.setCell ⟨b,o,none⟩ u):=Keep.trans h (Keep.of_setCell _ _ _) (fun _ _ q=>.inl q)
theorem YgZ (sp:List (Nat×Nat))(x y:Nat):YcN (sp++[(x,y)])=YcN sp++[.int .i64 x,.int .i64 y]:=by simp[YcN]
theorem Yp.push {B b:Nat}{s:ByteArray}{x e:Nat}{sp:List (Nat×Nat)}{v:Value}{W w1:World}{o:Obj}{gg cap:Nat}(h:Yp B b s e sp v W)(hfew:sp.length<=x)(hx:x<e)
 (h1:w1.ownsRow B 134 2 (.slice (some ⟨gg,0,none⟩) (sp.length+1) cap) (sp.length+1) (YcN sp++[.int .i64 x,.int .i64 e]))(hg:((W.alloc o).drew).grownBy w1 v.ownBlock):
 Yp B b s e (sp++[(x,e)]) (.slice (some ⟨gg,0,none⟩) (sp.length+1) cap) (w1.setCell ⟨b,258,none⟩ (.slice (some ⟨gg,0,none⟩) (sp.length+1) cap)):=by
 have hr:YF b s e v w1:=World.rowIs.of_block h.row (Ye5 hg h.row.lt h.apart);have hne:gg≠b:=by
  rintro rfl;obtain⟨c,hc⟩:=Yt h1 rfl;obtain⟨d,hd,_⟩:=hr;rw[hc] at hd; cases hd
 refine⟨hr.set3 _,?_,h.le,by simp; omega⟩;rw[YgZ,List.length_append,List.length_singleton];exact(Keep.of_setCell w1 ⟨b,258,none⟩ _).owns h1 (fun k hk e=>by cases hk; exact hne e)
theorem Yl.push {b:Nat}{v v':Value}{w W w1:World}{o:Obj}(h:Yl b v w W)(hv:v'.ownBlock=v.ownBlock\/∀k,v'.ownBlock=some k->w.heap.size<=k)(hg:((W.alloc o).drew).grownBy w1 v'.ownBlock)(u:Value):
 Yl b v w (w1.setCell ⟨b,258,none⟩ u):=by
 have h2:Keep (fun k=>k=b\/v.ownBlock=some k) w ((W.alloc o).drew):=Keep.trans h (Keep.of_below (S:=fun _=>False) (below_alloc1 W o).drew) (fun _ _ q=>False.elim q);have h3:Keep (fun k=>k=b\/v.ownBlock=some k) w w1:=h2.trans (Keep.of_grown hg) (fun i hi q=>by
  rcases hv with e | e
  ·exact .inr (e▸q)
  ·have:=e i q; omega)
 exact h3.trans (Keep.of_setCell _ _ _) (fun _ _ q=>.inl q)
theorem YmA {v v':Value}{w:World}{gg n cap N:Nat}(hv:v'.ownBlock=v.ownBlock\/∀k,v'.ownBlock=some k->w.heap.size<=k)(hat:v'.ownBlock=some gg\/gg=N)(hN:w.heap.size<=N):
 (Value.slice (some ⟨gg,0,none⟩) n cap).ownBlock=v.ownBlock\/∀k,(Value.slice (some ⟨gg,0,none⟩) n cap).ownBlock=some k->w.heap.size<=k:=by
 rcases hat with e | rfl
 ·rcases hv with q | q
  ·exact .inl (by rw[<-q,e]; rfl)
  ·exact .inr (fun k hk=>q k (by rw[e]; exact hk))
 ·exact .inr (fun k hk=>by cases hk; exact hN)
def Yee (B b:Nat)(s:ByteArray)(v:Value)(w:World)(r:YdN)(e:Ending)(w':World):Prop:=
 match r with
 |.err i=>∃k,e= .returned (.iface 190 (.pointer (some ⟨k,0,none⟩)))/\w.heap.size<=k/\w'.heap[k]? =some (.cells #[.int .i64 i,.int .i64 42] 192 (0,0))/\Yl b v w w'
 |.ok i sp=>e= .returned .nilIface/\∃v',Yp B b s i sp v' w'/\Yl b v w w'/\(v'.ownBlock=v.ownBlock\/∀k,v'.ownBlock=some k->w.heap.size<=k)
theorem Yg5 {b:Nat}{s:ByteArray}{x y:Nat}{v v':Value}{w w':World}(h:YF b s x v w)(h':YF b s y v' w')(hxy:x<y)(hx:x<s.size):s.size - atOf b w'<s.size - atOf b w:=by
 rw[h.atOf,h'.atOf]; omega
theorem Yjg {s:ByteArray}{i n:Nat}{sp:List (Nat×Nat)}{R:YdN}(h:Hid (Y7 s (n+1) i sp=R))(hi:i<s.size)(hc:cls (bt s i).toNat=1):Hid (Y7 s n (i+1) sp=R):=by
 have:=h.out;rwa [Y7,if_pos hi,if_pos hc] at this
theorem Yg0 {s:ByteArray}{i n:Nat}{sp:List (Nat×Nat)}{R:YdN}(h:Hid (Y7 s (n+1) i sp=R))(hi:i<s.size)(hc:¬cls (bt s i).toNat=1)(hst:Ji s i=true):Hid (Y7 s n (Ym s i) (sp++[(i,Ym s i)])=R):=by
 have:=h.out;rwa [Y7,if_pos hi,if_neg hc,if_pos hst] at this
theorem Ykn {s:ByteArray}{i:Nat}(hi:i<s.size)(hst:Ji s i=true):i<Ym s i/\Ym s i<=s.size:=by
 have hb:YbV (bt s i)=true:=by
  unfold Ji at hst; simp only[Bool.and_eq_true,beq_iff_eq] at hst;unfold YbV; rw[hst.1]; rfl
 unfold Ym;rw[YD hi hb];have:=YI s YbV (i+1) Zo;omega
theorem YgY {s:ByteArray}{i n:Nat}{sp:List (Nat×Nat)}{R:YdN}{ix:Int}(h:Hid (Y7 s (n+1) i sp=R))(hi:i<s.size)(hc:¬cls (bt s i).toNat=1)(hst:Hid (Ji s i=true))
 (hx:Lib.indexByte (s.extract i s.size).data.toList (10:Int).toNat.toUInt8=ix)(h0:ix<0):
 ∃e:Nat,(i:Int)+(s.size - i)=e/\i<e/\e<=s.size/\Hid (Y7 s n e (sp++[(i,e)])=R):=by
 have hl:=Ykn hi hst.out;have hs:=Yg0 h hi hc hst.out;rw[Lib.extract_to_end] at hx;have:=(YdJ s _ i rfl).1 (by rw[show(10:UInt8)=(10:Int).toNat.toUInt8 from rfl,hx]; exact h0) Zo;exact⟨Ym s i,by omega,hl.1,hl.2,hs⟩
theorem YgX {s:ByteArray}{i n:Nat}{sp:List (Nat×Nat)}{R:YdN}{ix:Int}(h:Hid (Y7 s (n+1) i sp=R))(hi:i<s.size)(hc:¬cls (bt s i).toNat=1)(hst:Hid (Ji s i=true))
 (hx:Lib.indexByte (s.extract i s.size).data.toList (10:Int).toNat.toUInt8=ix)(h0:0<=ix):
 ∃e:Nat,(i:Int)+ix=e/\i<e/\e<=s.size/\Hid (Y7 s n e (sp++[(i,e)])=R):=by
 have hl:=Ykn hi hst.out;have hs:=Yg0 h hi hc hst.out;rw[Lib.extract_to_end] at hx;have:=(YdJ s _ i rfl).2 (by rw[show(10:UInt8)=(10:Int).toNat.toUInt8 from rfl,hx]; exact h0);rw[show(10:UInt8)=(10:Int).toNat.toUInt8 from rfl,hx] at this;exact⟨Ym s i,by omega,hl.1,hl.2,hs⟩
theorem Yfe (s:ByteArray)(i:Nat)(h:i<s.size):Lib.hasPrefix (s.extract i s.size).data.toList (⟨#[47,42]⟩:ByteArray).data.toList=isOpen s i:=by
 rw[Lib.extract_to_end,drop_cons h];have e1:=Yj5 (s[i]'h) 47 Zo;unfold isOpen;rw[<-Yq h];by_cases h1:i+1<s.size
 ·have e2:=Yj5 (s[i+1]'h1) 42 Zo;rw[drop_cons h1,<-Yq h1,Bool.eq_iff_iff];simp only[Lib.hasPrefix,List.isPrefixOf,Bool.and_true,Bool.and_eq_true,beq_iff_eq];exact and_congr (eq_comm.trans e1) (eq_comm.trans e2)
 ·rw[drop_end Zo,JU Zo];simp[Lib.hasPrefix,List.isPrefixOf]
theorem Ynw {s:ByteArray}{i:Nat}(h:isOpen s i=true):i+1<s.size:=by
 rcases Nat.lt_or_ge (i+1) s.size with h1 | h1
 ·exact h1
 ·unfold isOpen at h; rw[JU h1] at h; simp at h
theorem YfH {s:ByteArray}{i:Nat}{ix:Int}(hx:Lib.index (s.extract (i+2) s.size).data.toList (⟨#[42,47]⟩:ByteArray).data.toList=ix):
 (ix<0->Yaj s (i+2)=none)/\(0<=ix->Yaj s (i+2)=some (i+2+ix.toNat+2)/\i+2+ix.toNat+2<=s.size):=by
 rw[Lib.extract_to_end] at hx;have:=YhE s _ (i+2) rfl;subst hx;exact this
theorem YkY {s:ByteArray}{i n:Nat}{sp:List (Nat×Nat)}{R:YdN}{ix:Int}(h:Hid (Y7 s (n+1) i sp=R))(hi:i<s.size)(hc:¬cls (bt s i).toNat=1)(hst:Ji s i=false)(ho:isOpen s i=true)
 (hx:Lib.index (s.extract (i+2) s.size).data.toList (⟨#[42,47]⟩:ByteArray).data.toList=ix)(h0:ix<0):Hid (R= .err i):=by
 have:=h.out;rw[Y7,if_pos hi,if_neg hc,hst,if_neg Zd,ho,if_pos rfl,(YfH hx).1 h0] at this;exact this.symm
theorem YkX {s:ByteArray}{i n:Nat}{sp:List (Nat×Nat)}{R:YdN}{ix:Int}(h:Hid (Y7 s (n+1) i sp=R))(hi:i<s.size)(hc:¬cls (bt s i).toNat=1)(hst:Ji s i=false)(ho:isOpen s i=true)
 (hx:Lib.index (s.extract (i+2) s.size).data.toList (⟨#[42,47]⟩:ByteArray).data.toList=ix)(h0:0<=ix):
 ∃e:Nat,(i:Int)+(ix+4)=e/\i<e/\e<=s.size/\Hid (Y7 s n e (sp++[(i,e)])=R):=by
 obtain⟨a,b⟩:=(YfH hx).2 h0;have:=h.out;rw[Y7,if_pos hi,if_neg hc,hst,if_neg Zd,ho,if_pos rfl,a] at this;exact⟨_,by omega,by omega,b,this⟩
theorem Yl.maxLen {B b:Nat}{sp:List (Nat×Nat)}{v:Value}{w wr:World}{m:Int}(h:Yl b v w wr)(hw:w.ownsRow B 134 2 v sp.length (YcN sp))(hB:B<=w.heap.size)(hg:2<B)(hb:B<=b)
 (hm:w.cell? ⟨2,0,none⟩=some (.int .i64 m)):wr.cell? ⟨2,0,none⟩=some (.int .i64 m):=by
 refine(h.cell (p:=⟨2,0,none⟩) (by show 2<_; omega) ?_).trans hm;rintro(e | e)
 ·have:2=b:=e;omega
 ·have hk:B<=2:=(hw.lt _ e).1;omega
theorem Ymf {B b:Nat}{s:ByteArray}{v:Value}{w wr w':World}{i:Nat}{R:YdN}(h:R= .err i)(hK:Yl b v w wr)(hw:w'.heap=(wr.alloc (.cells #[.int .i64 i,.int .i64 42] 192)).heap)(ho:w'.os=wr.os)(ht:w'.tape=wr.tape)(hp:w'.output=wr.output):
 Yee B b s v w R (.returned (.iface 190 (.pointer (some ⟨wr.heap.size,0,none⟩)))) w':=by
 subst h;refine⟨_,rfl,hK.size,by rw[hw]; exact heap_alloc_new _ _,Keep.trans hK (Keep.of_below (S:=fun _=>False) ⟨ho,ht,hp,by rw[hw]; simp,fun k hk=>by rw[hw]; exact Below.heap_alloc _ _ _ hk⟩) (fun _ _ q=>False.elim q)⟩
theorem Yg1 {B b:Nat}{s:ByteArray}{v v':Value}{w wr:World}{i n:Nat}{sp:List (Nat×Nat)}{R:YdN}(h:Hid (Y7 s (n+1) i sp=R))(hi:i<s.size)(hc:¬cls (bt s i).toNat=1)(hst:Ji s i=false)(ho:isOpen s i=false)
 (hA:Yp B b s i sp v' wr)(hK:Yl b v w wr)(hv:v'.ownBlock=v.ownBlock\/∀k,v'.ownBlock=some k->w.heap.size<=k):Yee B b s v w R (.returned .nilIface) wr:=by
 have:=h.out;rw[Y7,if_pos hi,if_neg hc,hst,if_neg Zd,ho,if_neg Zd] at this;subst this;exact⟨rfl,v',hA,hK,hv⟩
theorem Ymg {B b:Nat}{s:ByteArray}{v v':Value}{w wr:World}{i n:Nat}{sp:List (Nat×Nat)}{R:YdN}(h:Hid (Y7 s n i sp=R))(hi:¬i<s.size)
 (hA:Yp B b s i sp v' wr)(hK:Yl b v w wr)(hv:v'.ownBlock=v.ownBlock\/∀k,v'.ownBlock=some k->w.heap.size<=k):Yee B b s v w R (.returned .nilIface) wr:=by
 have:=h.out;cases n with
 |zero=>rw[Y7] at this; subst this; exact⟨rfl,v',hA,hK,hv⟩
 |succ n=>rw[Y7,if_neg hi] at this; subst this; exact⟨rfl,v',hA,hK,hv⟩
theorem Ymh (B b:Nat)(s:ByteArray)(at_:Nat)(sp:List (Nat×Nat))(v:Value)(w:World)(m:Int)(hs:s.size<=40000)(hw:Yp B b s at_ sp v w)
 (hB:B<=w.heap.size)(hg:2<B)(hbB:B<=b)(hm:w.cell? ⟨2,0,none⟩=some (.int .i64 m))(n:Nat)(hn:s.size - at_<n):
 Calls Tryz.prog 165 #[.pointer (some ⟨b,0,none⟩)] w (Yee B b s v w (Y7 s n at_ sp)):=by
 go_enter Tryz.func165,Tryz.ntmps165;go_wp2;go_loopw [] (fun wr=>∃at' sp' v' n',s.size - at'<n'/\Yp B b s at' sp' v' wr/\Hid (Y7 s n' at' sp'=Y7 s n at_ sp)/\Yl b v w wr/\(v'.ownBlock=v.ownBlock\/∀k,v'.ownBlock=some k->w.heap.size<=k)) (fun wr=>s.size - atOf b wr)
 case atStart=>exact⟨at_,sp,v,n,hn,hw,rfl,Keep.refl _ _,.inl rfl⟩
 case round=>
  obtain⟨at',sp',v',n',hn',hA,hR,hK,hv⟩:=hrel;have hw0:=hw.own;clear hw;have hc0:=hA.row.c0;have hc1:=hA.row.c1;have hle:=hA.le;by_cases hlt:at'<s.size
  ·have hl:decide (at'<s.size)=true:=by simpa using hlt
   have hx1:(s[at']'hlt).toNat<256:=(s[at']).toNat_lt;have hc2:=hA.row.c2 (s[at']'hlt).toNat hx1;have HB:Hid (((s[at']'hlt).toNat:Int)=bt s at'):=Yq hlt;have hf1:=hA.row.frozen 1;generalize hv1:cls (s[at']'hlt).toNat=c1 at hc2;have HV:=Zh hv1;clear hv1;obtain⟨n',rfl⟩:∃k,n'=k+1:=⟨n' - 1,by omega⟩;go_wp2;go_quiet (fail)
   go_upto_block 2 with(fail)
   go_cut [3] (fun s3 wx=>s3= .int .i64 at'/\∃e,at'<e/\Yp B b s e sp' v' wx/\Yl b v w wx/\Hid (Y7 s n' e (sp'++[(at',e)])=Y7 s n at_ sp))
   case first=>
    by_cases e1:c1=1
    ·subst e1;go_wp2;go_quiet (fail)
     go_wp2;have hA2:=fun k=>(hA.drewN k).set1 (at'+1) Zo Zo;go_roundw
     case rel=>exact⟨at'+1,sp',v',n',by omega,hA2 _,Yjg hR hlt (by rw[<-HB.out]; exact HV.out),(hK.drewN _).set _ _,hv⟩
     case measure=>exact Yg5 hA.row (hA2 _).row Zo hlt
    ·have n1:(c1==1)=false:=by simpa using e1
     have HC:Hid (¬cls (bt s at').toNat=1):=fun h=>e1 (HV.out.symm.trans (by rw[<-HB.out] at h; exact h));clear e1;by_cases hst:Ji s at'=true
     ·have e42:(((s[at']'hlt).toNat:Int)==42)=true:=by
       rw[HB.out]; unfold Ji at hst; simp only[Bool.and_eq_true] at hst; exact hst.1
      have hI:=fun w=>Tryz.strings_IndexByte (s.extract at' s.size) 10 w;generalize hix:Lib.indexByte (s.extract at' s.size).data.toList (10:Int).toNat.toUInt8=ix at hI;have HI:=Zh hix;clear hix;have hst':=Zh hst;by_cases hz:at'=0
      ·have hz0:(((at':Nat):Int)==0)=true:=by simpa using hz
       clear hz hst;go_wp2;go_quiet (fail)
       go_wp2;go_quiet (fail)
       go_wp2;go_quiet ((go_at_call 87; exact Ybk hI))
       clear hI;by_cases hi:ix<0
       ·obtain⟨e,hsum,he1,he2,HSTEP⟩:=YgY hR hlt HC.out hst' HI.out hi;go_wp2;go_quiet (fail)
        go_wp2_with (fail);have hA3:=fun k=>(hA.drewN k).set1 e he2 Zo;have hK3:=fun k=>(hK.drewN k).set 1 (.int .i64 e);go_meet
        exact⟨rfl,e,he1,hA3 _,hK3 _,HSTEP⟩
       ·obtain⟨e,hsum,he1,he2,HSTEP⟩:=YgX hR hlt HC.out hst' HI.out Zo;go_wp2_with (fail);have hA3:=fun k=>(hA.drewN k).set1 e he2 Zo;have hK3:=fun k=>(hK.drewN k).set 1 (.int .i64 e);go_meet
        exact⟨rfl,e,he1,hA3 _,hK3 _,HSTEP⟩
      ·have hz0:(((at':Nat):Int)==0)=false:=by simpa using hz
       have hlt2:at' - 1<s.size:=Zo;have e10:(((s[at' - 1]'hlt2).toNat:Int)==10)=true:=by
        rw[Yq hlt2]; unfold Ji at hst; simp only[Bool.and_eq_true,Bool.or_eq_true,decide_eq_true_eq] at hst; exact hst.2.resolve_left hz
       have w1:IntKind.i64.wrap ((at':Int) - 1)=at' - 1:=IntWalk.i64_in _ Zo;have p1:(0:Int)<=(at':Int) - 1:=Zo;have p2:(1:Int)<=(at':Int):=Zo;have p3:(at':Int) - 1<(s.size:Int):=Zo;have t1:((at':Int) - 1).toNat=at' - 1:=Zo;clear hz hst;go_wp2;go_quiet (fail)
       go_wp2;go_quiet (fail)
       go_wp2;go_quiet ((go_at_call 87; exact Ybk hI))
       clear hI;by_cases hi:ix<0
       ·obtain⟨e,hsum,he1,he2,HSTEP⟩:=YgY hR hlt HC.out hst' HI.out hi;go_wp2;go_quiet (fail)
        go_wp2_with (fail);have hA3:=fun k=>(hA.drewN k).set1 e he2 Zo;have hK3:=fun k=>(hK.drewN k).set 1 (.int .i64 e);go_meet
        exact⟨rfl,e,he1,hA3 _,hK3 _,HSTEP⟩
       ·obtain⟨e,hsum,he1,he2,HSTEP⟩:=YgX hR hlt HC.out hst' HI.out Zo;go_wp2_with (fail);have hA3:=fun k=>(hA.drewN k).set1 e he2 Zo;have hK3:=fun k=>(hK.drewN k).set 1 (.int .i64 e);go_meet
        exact⟨rfl,e,he1,hA3 _,hK3 _,HSTEP⟩
     ·have hns:Ji s at'=false:=by simpa using hst
      have HNS:=Zh hns;have hP0:=fun w=>Tryz.strings_HasPrefix (s.extract at' s.size) ⟨#[47,42]⟩ w;rw[Yfe s at' hlt] at hP0;clear hst;by_cases e42:((s[at']'hlt).toNat:Int)=42
      ·have e42':(((s[at']'hlt).toNat:Int)==42)=true:=beq_iff_eq.2 e42;have hz:at'≠0:=by
        rintro rfl;rw[Yq hlt] at e42;unfold Ji at hns; rw[e42] at hns; simp at hns
       have hz0:(((at':Nat):Int)==0)=false:=by simpa using hz
       have hlt2:at' - 1<s.size:=Zo;have e10:(((s[at' - 1]'hlt2).toNat:Int)==10)=false:=by
        rw[Yq hlt] at e42;rw[Yq hlt2]; unfold Ji at hns; rw[e42] at hns; simp[hz] at hns; simpa using hns
       have w1:IntKind.i64.wrap ((at':Int) - 1)=at' - 1:=IntWalk.i64_in _ Zo;have p1:(0:Int)<=(at':Int) - 1:=Zo;have p2:(1:Int)<=(at':Int):=Zo;have p3:(at':Int) - 1<(s.size:Int):=Zo;have t1:((at':Int) - 1).toNat=at' - 1:=Zo;have ho:isOpen s at'=false:=by rw[Yq hlt] at e42; unfold isOpen; rw[e42]; rfl
       have HO:=Zh ho;rw[ho] at hP0;clear hz hns e42 ho;go_wp2;go_quiet (fail)
       go_wp2;go_quiet (fail)
       go_wp2;go_quiet ((go_at_call 37; exact Ybk hP0))
       clear hP0;go_wp2;go_ret;exact Yg1 hR hlt HC.out HNS.out HO.out (by repeat (first | exact hA | refine Yp.drewN ?_ _)) (by repeat (first | exact hK | refine Yl.drewN ?_ _)) hv
      ·have e42':(((s[at']'hlt).toNat:Int)==42)=false:=beq_eq_false_iff_ne.2 e42;clear hns e42;by_cases ho:isOpen s at'=true
       ·have HO:=Zh ho;rw[ho] at hP0;have hlt2:=Ynw ho;have w2:IntKind.i64.wrap ((at':Int)+2)=at'+2:=IntWalk.i64_in _ Zo;have p1:(0:Int)<=(at':Int)+2:=Zo;have p3:(at':Int)+2<=(s.size:Int):=Zo;have t1:((at':Int)+2).toNat=at'+2:=Zo;have hm2:=hK.maxLen hw0 hB hg hbB hm;have hX:=fun k=>Tryz.strings_Index (s.extract (at'+2) s.size) ⟨#[42,47]⟩ m (wr.drewN k) (by rw[ByteArray.size_extract]; omega) hm2;generalize hix:Lib.index (s.extract (at'+2) s.size).data.toList (⟨#[42,47]⟩:ByteArray).data.toList=ix at hX;have HI:=Zh hix;clear ho hix;go_wp2;go_quiet (fail)
        go_wp2;go_quiet (fail)
        go_wp2;go_quiet ((go_at_call 37; exact Ybk hP0))
        clear hP0;go_wp2;go_quiet ((go_at_call 76; exact Ymz (hX _)))
        clear hX;by_cases hi:ix<0
        ·have HE:=YkY hR hlt HC.out HNS.out HO.out HI.out hi;go_wp2;go_ret;exact Ymf HE.out hK rfl rfl rfl rfl
        ·obtain⟨e,hsum,he1,he2,HSTEP⟩:=YkX hR hlt HC.out HNS.out HO.out HI.out Zo;have w4:IntKind.i64.wrap (ix+4)=ix+4:=IntWalk.i64_in _ Zo;go_wp2_with (fail);have hA3:=fun k=>(hA.drewN k).set1 e he2 Zo;have hK3:=fun k=>(hK.drewN k).set 1 (.int .i64 e);go_meet
         exact⟨rfl,e,he1,hA3 _,hK3 _,HSTEP⟩
       ·have ho:isOpen s at'=false:=by simpa using ho
        have HO:=Zh ho;rw[ho] at hP0;clear ho;go_wp2;go_quiet (fail)
        go_wp2;go_quiet (fail)
        go_wp2;go_quiet ((go_at_call 37; exact Ybk hP0))
        clear hP0;go_wp2;go_ret;exact Yg1 hR hlt HC.out HNS.out HO.out (by repeat (first | exact hA | refine Yp.drewN ?_ _)) (by repeat (first | exact hK | refine Yl.drewN ?_ _)) hv
   case rest=>
    obtain⟨rfl,e,he1,hA4,hK4,HSTEP⟩:=hcut;have he2:=hA4.le;have hc1:=hA4.row.c1;have hc3:=hA4.row.c3;have hf3:=hA4.row.frozen 258;have hown:=hA4.own;have hfew:=hA.few;obtain⟨i0,hi0,hz0,hz1,hz2⟩:=info_parts Ylt;have hBW:B<=wc.heap.size:=Nat.le_trans hB hK4.size;have ag:=hA4.apart;have lb:=hA4.row.lt;go_wp2_with (fail);go_region_law ((refine step_append_lies _ Zr _ _ _ Zr B 134 i0 _ 2 16 Tryz.underlying131 hi0 hz0 hz1 hz2 rfl Zo v' sp'.length (YcN sp') Zr ((hown.alloc _).drew) ⟨wc.heap.size,0,none⟩ 1 1 [.int .i64 at',.int .i64 e] Zr Zr (World.news_of_block (cs:=#[.int .i64 at',.int .i64 e]) (t:=134) (fr:=(0,0)) (heap_alloc_new wc _)) (by simp[Value.oneCell']) Zo (by unfold maxLen; omega) Zo (by simp; omega) (wc.heap.size+1) Zs ?_; intro gg cap w1 hown1 hgrow hat hlt9; have hff:=frozen_far hgrow (p:=⟨b,258,none⟩) lb ag hf3; have hcc:=cell_far hgrow (p:=⟨b,258,none⟩) lb ag hc3))
    all_goals
     have hP:=Yp.push hA4 hA.few he1 hown1 hgrow;have hPK:=Yl.push hK4 hv hgrow (.slice (some ⟨gg,0,none⟩) (sp'.length+1) cap);have hPv:=YmA (n:=sp'.length+1) (cap:=cap) hv hat (Nat.le_succ_of_le hK4.size);clear hff hcc;go_wp2;go_roundw
     case rel=>exact⟨e,sp'++[(at',e)],_,n',by omega,hP,HSTEP,hPK,hPv⟩
     case measure=>exact Yg5 hA.row hP.row he1 hlt
  ·have hl:decide (at'<s.size)=false:=by simpa using hlt
   go_wp2;go_quiet (fail)
   go_wp2;go_ret;exact Ymg hR hlt (hA.drewN _) (hK.drewN _) hv
theorem YiA {s:ByteArray}{i x:Nat}{c:Int}(h:tokN s i= .bad c x):¬c=0:=by
 have hn:∀{k:Int} {a b:Nat},near s k a b= .bad c x->¬c=0:=fun h=>by
  unfold near at h; split at h
  ·cases h; decide
  ·cases h
 unfold tokN at h;split at h
 ·unfold quoR at h;split at h
  ·cases h; decide
  ·split at h
   ·cases h
   ·split at h
    ·cases h; decide
    ·cases h
 ·split at h
  ·cases h
  ·split at h
   ·split at h
    ·cases h; decide
    ·exact hn h
   ·split at h
    ·split at h
     ·cases h; decide
     ·exact hn h
    ·split at h
     ·split at h
      ·exact hn h
      ·cases h; decide
     ·split at h
      ·generalize(if cls (bt s (i+1)).toNat=2 then Yo s (inner Yj) (i+1) else i+1)=E at h;split at h
       ·exact hn h
       ·cases h; decide
      ·cases h; decide
theorem YgN (s:ByteArray):∀(n i:Nat) (sp:List (Nat×Nat)) (acc:List Tk) (c:Int) (x:Nat),Yau s n i sp acc= .bad c x->¬c=0
 |0,i,sp,acc,c,x,h=>by simp[Yau] at h
 |
  n+1,i,sp,acc,c,x,h=>by
  unfold Yau at h;split at h
  ·cases h; decide
  ·split at h
   ·cases h
   ·split at h
    ·rename_i ht; cases h; exact YiA ht
    ·exact YgN s n _ _ _ _ _ h
theorem Yg6 {s:ByteArray}{c:Int}{x:Nat}(h:Yax s= .bad c x):¬c=0:=by
 unfold Yax at h;split at h
 ·cases h; decide
 ·exact YgN s _ _ _ _ _ _ h
def Has (s:ByteArray)(i:Nat)(l:List UInt8):Prop:=l<+:s.data.toList.drop i
theorem Ygz {s:ByteArray}{i:Nat}(P:Int->Bool)(h:∀x:Fin 256,P (x.val:Int)=true):P (bt s i)=true:=by
 have h1:=YB s i;have h2:=Jk s i;have:=h ⟨(bt s i).toNat,by omega⟩;rwa [show(((bt s i).toNat:Nat):Int)=bt s i by omega] at this
def You (c:Int):Bool:=cls c.toNat==2||cls c.toNat==3||c==45||c==95||c==46
theorem YmI (s:ByteArray)(i:Nat):YeM s i=(decide (i<s.size)&&You (bt s i)):=rfl
theorem YjI:∀x:Fin 256,(!(cls (x.val:Int).toNat==2)||(!((x.val:Int)==39)&&!((x.val:Int)==34)&&inner Yj x.val&&inner JI x.val))=true:=by decide+kernel
theorem Yfv:∀x:Fin 256,(!steB (x.val:Int)||cls (x.val:Int).toNat==2)=true:=by decide+kernel
def Yok (c:Int):Bool:=!(cls c.toNat==1)&&!(c==42)&&!(c==47)
def Stop (s:ByteArray)(i:Nat):Prop:=i=s.size\/(i<s.size/\Yok (bt s i)=true)
end Go.Proofs.YteamjdmhdfjopaaGreatDoor
