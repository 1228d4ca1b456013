/- A part of the proof; it holds the texts Skip (names and blanks shortened). -/
import Derived.Test.YteamjdmhdfjopaaGreatDoorC9
import Derived.Test.YteamjdmhdfjopaaGreatDoorC1
import Derived.Test.YteamjdmhdfjopaaGreatDoorC2
import Derived.Deep.DeepCutAuto
import Derived.Deep.CutBlock
namespace Go.Proofs.YteamjdmhdfjopaaGreatDoor
open Go.RowKit
set_option maxRecDepth 100000
set_option maxHeartbeats 8000000
set_option linter.unusedVariables false
set_option linter.unusedSimpArgs false
theorem Ynv:(Tryz.prog.info? 134).map (fun i=>(i.zero,i.size,i.bytes))=some (some (.agg #[.int .i64 0,.int .i64 0]),2,16):=by kernel_rfl
def YaK (sp:List (Nat×Nat)):List Value:=sp.flatMap fun p=>[.int .i64 p.1,.int .i64 p.2]
structure Yk (B b:Nat)(s:ByteArray)(at_:Nat)(sp:List (Nat×Nat))(v:Value)(w:World):Prop where
 row:Yw b s at_ v w
 own:w.ownsRow B 134 2 v sp.length (YaK sp)
 le:at_<=s.size
 few:sp.length<=at_
def Yg (b:Nat)(v:Value)(w w':World):Prop:=Keep (fun k=>k=b\/v.ownBlock=some k) w w'
def atOf (b:Nat)(w:World):Nat:=match w.cell? ⟨b,1,none⟩ with | some (.int _ n)=>n.toNat | _=>0
theorem Yw.atOf {b:Nat}{s:ByteArray}{at_:Nat}{v:Value}{w:World}(h:Yw b s at_ v w):atOf b w=at_:=by
 unfold Proofs.YteamjdmhdfjopaaGreatDoor.atOf; rw[h.c1]; simp
theorem Yk.drewN {B b:Nat}{s:ByteArray}{at_:Nat}{sp:List (Nat×Nat)}{v:Value}{w:World}(h:Yk B b s at_ sp v w)(n:Nat):Yk B b s at_ sp v (w.drewN n):=⟨h.row.drewN n,h.own,h.le,h.few⟩
theorem Yk.apart {B b:Nat}{s:ByteArray}{at_:Nat}{sp:List (Nat×Nat)}{v:Value}{w:World}(h:Yk B b s at_ sp v w):v.ownBlock≠some b:=by
 intro e;obtain⟨c,hc⟩:=Yr h.own e;obtain⟨d,hd,_⟩:=h.row;rw[hc] at hd; cases hd
theorem Yk.set1 {B b:Nat}{s:ByteArray}{at_:Nat}{sp:List (Nat×Nat)}{v:Value}{w:World}(h:Yk B b s at_ sp v w)(at':Nat)(h1:at'<=s.size)(h2:at_<=at'):Yk B b s at' sp v (w.setCell ⟨b,1,none⟩ (.int .i64 at')):=
 ⟨h.row.set1 at',(Keep.of_setCell w ⟨b,1,none⟩ _).owns h.own (fun k hk e=>h.apart (by rw[hk,e])),h1,by have:=h.few; omega⟩
theorem Yg.drewN {b:Nat}{v:Value}{w wr:World}(h:Yg b v w wr)(n:Nat):Yg b v w (wr.drewN n):=Keep.trans h (Keep.of_drewN (S:=fun _=>False) _ _) (fun _ _ q=>q.elim)
theorem Yg.set {b:Nat}{v:Value}{w wr:World}(h:Yg b v w wr)(o:Nat)(u:Value):Yg b v w (wr.setCell ⟨b,o,none⟩ u):=Keep.trans h (Keep.of_setCell _ _ _) (fun _ _ q=>.inl q)
theorem YhO (sp:List (Nat×Nat))(x y:Nat):YaK (sp++[(x,y)])=YaK sp++[.int .i64 x,.int .i64 y]:=by simp[YaK]
theorem Yk.push {B b:Nat}{s:ByteArray}{x e:Nat}{sp:List (Nat×Nat)}{v:Value}{W w1:World}{o:Obj}{gg cap:Nat}(h:Yk B b s e sp v W)(hfew:sp.length<=x)(hx:x<e)
 (h1:w1.ownsRow B 134 2 (.slice (some ⟨gg,0,none⟩) (sp.length+1) cap) (sp.length+1) (YaK sp++[.int .i64 x,.int .i64 e]))(hg:((W.alloc o).drew).grownBy w1 v.ownBlock):
 Yk B b s e (sp++[(x,e)]) (.slice (some ⟨gg,0,none⟩) (sp.length+1) cap) (w1.setCell ⟨b,258,none⟩ (.slice (some ⟨gg,0,none⟩) (sp.length+1) cap)):=by
 have hr:Yw b s e v w1:=World.rowIs.of_block h.row (Yfv hg h.row.lt h.apart);have hne:gg≠b:=by
  rintro rfl;obtain⟨c,hc⟩:=Yr h1 rfl;obtain⟨d,hd,_⟩:=hr;rw[hc] at hd; cases hd
 refine⟨hr.set3 _,?_,h.le,by simp; omega⟩;rw[YhO,List.length_append,List.length_singleton];exact(Keep.of_setCell w1 ⟨b,258,none⟩ _).owns h1 (fun k hk e=>by cases hk; exact hne e)
theorem Yg.push {b:Nat}{v v':Value}{w W w1:World}{o:Obj}(h:Yg b v w W)(hv:v'.ownBlock=v.ownBlock\/∀k,v'.ownBlock=some k->w.heap.size<=k)(hg:((W.alloc o).drew).grownBy w1 v'.ownBlock)(u:Value):
 Yg b v w (w1.setCell ⟨b,258,none⟩ u):=by
 have h2:Keep (fun k=>k=b\/v.ownBlock=some k) w ((W.alloc o).drew):=Keep.trans h (Keep.of_below (S:=fun _=>False) (below_alloc1 W o).drew) (fun _ _ q=>False.elim q);have h3:Keep (fun k=>k=b\/v.ownBlock=some k) w w1:=h2.trans (Keep.of_grown hg) (fun i hi q=>by
  rcases hv with e | e
  ·exact .inr (e▸q)
  ·have:=e i q; omega)
 exact h3.trans (Keep.of_setCell _ _ _) (fun _ _ q=>.inl q)
theorem YoO {v v':Value}{w:World}{gg n cap N:Nat}(hv:v'.ownBlock=v.ownBlock\/∀k,v'.ownBlock=some k->w.heap.size<=k)(hat:v'.ownBlock=some gg\/gg=N)(hN:w.heap.size<=N):
 (Value.slice (some ⟨gg,0,none⟩) n cap).ownBlock=v.ownBlock\/∀k,(Value.slice (some ⟨gg,0,none⟩) n cap).ownBlock=some k->w.heap.size<=k:=by
 rcases hat with e | rfl
 ·rcases hv with q | q
  ·exact .inl (by rw[<-q,e]; rfl)
  ·exact .inr (fun k hk=>q k (by rw[e]; exact hk))
 ·exact .inr (fun k hk=>by cases hk; exact hN)
def Yew (B b:Nat)(s:ByteArray)(v:Value)(w:World)(r:Yej)(e:Ending)(w':World):Prop:=
 match r with
 |.err i=>∃k,e= .returned (.iface 190 (.pointer (some ⟨k,0,none⟩)))/\w.heap.size<=k/\w'.heap[k]? =some (.cells #[.int .i64 i,.int .i64 42] 192 (0,0))/\Yg b v w w'
 |.ok i sp=>e= .returned .nilIface/\∃v',Yk B b s i sp v' w'/\Yg b v w w'/\(v'.ownBlock=v.ownBlock\/∀k,v'.ownBlock=some k->w.heap.size<=k)
theorem Yh0 {b:Nat}{s:ByteArray}{x y:Nat}{v v':Value}{w w':World}(h:Yw b s x v w)(h':Yw b s y v' w')(hxy:x<y)(hx:x<s.size):s.size - atOf b w'<s.size - atOf b w:=by
 rw[h.atOf,h'.atOf]; omega
theorem Yld {s:ByteArray}{i n:Nat}{sp:List (Nat×Nat)}{R:Yej}(h:Hid (YO s (n+1) i sp=R))(hi:i<s.size)(hc:cls (bt s i).toNat=1):Hid (YO s n (i+1) sp=R):=by
 have:=h.out;rwa [YO,if_pos hi,if_pos hc] at this
theorem YhP {s:ByteArray}{i n:Nat}{sp:List (Nat×Nat)}{R:Yej}(h:Hid (YO s (n+1) i sp=R))(hi:i<s.size)(hc:¬cls (bt s i).toNat=1)(hst:Y7 s i=true):Hid (YO s n (YK s i) (sp++[(i,YK s i)])=R):=by
 have:=h.out;rwa [YO,if_pos hi,if_neg hc,if_pos hst] at this
theorem Ymq {s:ByteArray}{i:Nat}(hi:i<s.size)(hst:Y7 s i=true):i<YK s i/\YK s i<=s.size:=by
 have hb:Ye2 (bt s i)=true:=by
  unfold Y7 at hst; simp only[Bool.and_eq_true,beq_iff_eq] at hst;unfold Ye2; rw[hst.1]; rfl
 unfold YK;rw[YE hi hb];have:=YW s Ye2 (i+1) Zo;omega
theorem YhN {s:ByteArray}{i n:Nat}{sp:List (Nat×Nat)}{R:Yej}{ix:Int}(h:Hid (YO s (n+1) i sp=R))(hi:i<s.size)(hc:¬cls (bt s i).toNat=1)(hst:Hid (Y7 s i=true))
 (hx:Lib.indexByte (s.extract i s.size).data.toList (10:Int).toNat.toUInt8=ix)(h0:ix<0):
 ∃e:Nat,(i:Int)+(s.size - i)=e/\i<e/\e<=s.size/\Hid (YO s n e (sp++[(i,e)])=R):=by
 have hl:=Ymq hi hst.out;have hs:=YhP h hi hc hst.out;rw[Lib.extract_to_end] at hx;have:=(YdO s _ i rfl).1 (by rw[show(10:UInt8)=(10:Int).toNat.toUInt8 from rfl,hx]; exact h0) Zo;exact⟨YK s i,by omega,hl.1,hl.2,hs⟩
theorem YhM {s:ByteArray}{i n:Nat}{sp:List (Nat×Nat)}{R:Yej}{ix:Int}(h:Hid (YO s (n+1) i sp=R))(hi:i<s.size)(hc:¬cls (bt s i).toNat=1)(hst:Hid (Y7 s i=true))
 (hx:Lib.indexByte (s.extract i s.size).data.toList (10:Int).toNat.toUInt8=ix)(h0:0<=ix):
 ∃e:Nat,(i:Int)+ix=e/\i<e/\e<=s.size/\Hid (YO s n e (sp++[(i,e)])=R):=by
 have hl:=Ymq hi hst.out;have hs:=YhP h hi hc hst.out;rw[Lib.extract_to_end] at hx;have:=(YdO s _ i rfl).2 (by rw[show(10:UInt8)=(10:Int).toNat.toUInt8 from rfl,hx]; exact h0);rw[show(10:UInt8)=(10:Int).toNat.toUInt8 from rfl,hx] at this;exact⟨YK s i,by omega,hl.1,hl.2,hs⟩
theorem YfI (s:ByteArray)(i:Nat)(h:i<s.size):Lib.hasPrefix (s.extract i s.size).data.toList (⟨#[47,42]⟩:ByteArray).data.toList=isOpen s i:=by
 rw[Lib.extract_to_end,drop_cons h];have e1:=Yl5 (s[i]'h) 47 Zo;unfold isOpen;rw[<-Je h];by_cases h1:i+1<s.size
 ·have e2:=Yl5 (s[i+1]'h1) 42 Zo;rw[drop_cons h1,<-Je h1,Bool.eq_iff_iff];simp only[Lib.hasPrefix,List.isPrefixOf,Bool.and_true,Bool.and_eq_true,beq_iff_eq];exact and_congr (eq_comm.trans e1) (eq_comm.trans e2)
 ·rw[drop_end Zo,Jp Zo];simp[Lib.hasPrefix,List.isPrefixOf]
theorem Yp8 {s:ByteArray}{i:Nat}(h:isOpen s i=true):i+1<s.size:=by
 rcases Nat.lt_or_ge (i+1) s.size with h1 | h1
 ·exact h1
 ·unfold isOpen at h; rw[Jp h1] at h; simp at h
theorem Yge {s:ByteArray}{i:Nat}{ix:Int}(hx:Lib.index (s.extract (i+2) s.size).data.toList (⟨#[42,47]⟩:ByteArray).data.toList=ix):
 (ix<0->Yce s (i+2)=none)/\(0<=ix->Yce s (i+2)=some (i+2+ix.toNat+2)/\i+2+ix.toNat+2<=s.size):=by
 rw[Lib.extract_to_end] at hx;have:=YiM s _ (i+2) rfl;subst hx;exact this
theorem YmQ {s:ByteArray}{i n:Nat}{sp:List (Nat×Nat)}{R:Yej}{ix:Int}(h:Hid (YO s (n+1) i sp=R))(hi:i<s.size)(hc:¬cls (bt s i).toNat=1)(hst:Y7 s i=false)(ho:isOpen s i=true)
 (hx:Lib.index (s.extract (i+2) s.size).data.toList (⟨#[42,47]⟩:ByteArray).data.toList=ix)(h0:ix<0):Hid (R= .err i):=by
 have:=h.out;rw[YO,if_pos hi,if_neg hc,hst,if_neg Zd,ho,if_pos rfl,(Yge hx).1 h0] at this;exact this.symm
theorem YmP {s:ByteArray}{i n:Nat}{sp:List (Nat×Nat)}{R:Yej}{ix:Int}(h:Hid (YO s (n+1) i sp=R))(hi:i<s.size)(hc:¬cls (bt s i).toNat=1)(hst:Y7 s i=false)(ho:isOpen s i=true)
 (hx:Lib.index (s.extract (i+2) s.size).data.toList (⟨#[42,47]⟩:ByteArray).data.toList=ix)(h0:0<=ix):
 ∃e:Nat,(i:Int)+(ix+4)=e/\i<e/\e<=s.size/\Hid (YO s n e (sp++[(i,e)])=R):=by
 obtain⟨a,b⟩:=(Yge hx).2 h0;have:=h.out;rw[YO,if_pos hi,if_neg hc,hst,if_neg Zd,ho,if_pos rfl,a] at this;exact⟨_,by omega,by omega,b,this⟩
theorem Yg.maxLen {B b:Nat}{sp:List (Nat×Nat)}{v:Value}{w wr:World}{m:Int}(h:Yg b v w wr)(hw:w.ownsRow B 134 2 v sp.length (YaK sp))(hB:B<=w.heap.size)(hg:2<B)(hb:B<=b)
 (hm:w.cell? ⟨2,0,none⟩=some (.int .i64 m)):wr.cell? ⟨2,0,none⟩=some (.int .i64 m):=by
 refine(h.cell (p:=⟨2,0,none⟩) (by show 2<_; omega) ?_).trans hm;rintro(e | e)
 ·have:2=b:=e;omega
 ·have hk:B<=2:=(hw.lt _ e).1;omega
theorem YoB {B b:Nat}{s:ByteArray}{v:Value}{w wr w':World}{i:Nat}{R:Yej}(h:R= .err i)(hK:Yg b v w wr)(hw:w'.heap=(wr.alloc (.cells #[.int .i64 i,.int .i64 42] 192)).heap)(ho:w'.os=wr.os)(ht:w'.tape=wr.tape)(hp:w'.output=wr.output):
 Yew B b s v w R (.returned (.iface 190 (.pointer (some ⟨wr.heap.size,0,none⟩)))) w':=by
 subst h;refine⟨_,rfl,hK.size,by rw[hw]; exact heap_alloc_new _ _,Keep.trans hK (Keep.of_below (S:=fun _=>False) ⟨ho,ht,hp,by rw[hw]; simp,fun k hk=>by rw[hw]; exact Below.heap_alloc _ _ _ hk⟩) (fun _ _ q=>False.elim q)⟩
theorem YhQ {B b:Nat}{s:ByteArray}{v v':Value}{w wr:World}{i n:Nat}{sp:List (Nat×Nat)}{R:Yej}(h:Hid (YO s (n+1) i sp=R))(hi:i<s.size)(hc:¬cls (bt s i).toNat=1)(hst:Y7 s i=false)(ho:isOpen s i=false)
 (hA:Yk B b s i sp v' wr)(hK:Yg b v w wr)(hv:v'.ownBlock=v.ownBlock\/∀k,v'.ownBlock=some k->w.heap.size<=k):Yew B b s v w R (.returned .nilIface) wr:=by
 have:=h.out;rw[YO,if_pos hi,if_neg hc,hst,if_neg Zd,ho,if_neg Zd] at this;subst this;exact⟨rfl,v',hA,hK,hv⟩
theorem YoC {B b:Nat}{s:ByteArray}{v v':Value}{w wr:World}{i n:Nat}{sp:List (Nat×Nat)}{R:Yej}(h:Hid (YO s n i sp=R))(hi:¬i<s.size)
 (hA:Yk B b s i sp v' wr)(hK:Yg b v w wr)(hv:v'.ownBlock=v.ownBlock\/∀k,v'.ownBlock=some k->w.heap.size<=k):Yew B b s v w R (.returned .nilIface) wr:=by
 have:=h.out;cases n with
 |zero=>rw[YO] at this; subst this; exact⟨rfl,v',hA,hK,hv⟩
 |succ n=>rw[YO,if_neg hi] at this; subst this; exact⟨rfl,v',hA,hK,hv⟩
theorem YoD (B b:Nat)(s:ByteArray)(at_:Nat)(sp:List (Nat×Nat))(v:Value)(w:World)(m:Int)(hs:s.size<=40000)(hw:Yk B b s at_ sp v w)
 (hB:B<=w.heap.size)(hg:2<B)(hbB:B<=b)(hm:w.cell? ⟨2,0,none⟩=some (.int .i64 m))(n:Nat)(hn:s.size - at_<n):
 Calls Tryz.prog 165 #[.pointer (some ⟨b,0,none⟩)] w (Yew B b s v w (YO s n at_ sp)):=by
 go_enter Tryz.func165,Tryz.ntmps165;go_wp2;go_loopw [] (fun wr=>∃at' sp' v' n',s.size - at'<n'/\Yk B b s at' sp' v' wr/\Hid (YO s n' at' sp'=YO s n at_ sp)/\Yg b v w wr/\(v'.ownBlock=v.ownBlock\/∀k,v'.ownBlock=some k->w.heap.size<=k)) (fun wr=>s.size - atOf b wr)
 case atStart=>exact⟨at_,sp,v,n,hn,hw,rfl,Keep.refl _ _,.inl rfl⟩
 case round=>
  obtain⟨at',sp',v',n',hn',hA,hR,hK,hv⟩:=hrel;have hw0:=hw.own;clear hw;have hc0:=hA.row.c0;have hc1:=hA.row.c1;have hle:=hA.le;by_cases hlt:at'<s.size
  ·have hl:decide (at'<s.size)=true:=by simpa using hlt
   have hx1:(s[at']'hlt).toNat<256:=(s[at']).toNat_lt;have hc2:=hA.row.c2 (s[at']'hlt).toNat hx1;have HB:Hid (((s[at']'hlt).toNat:Int)=bt s at'):=Je hlt;have hf1:=hA.row.frozen 1;generalize hv1:cls (s[at']'hlt).toNat=c1 at hc2;have HV:=Zh hv1;clear hv1;obtain⟨n',rfl⟩:∃k,n'=k+1:=⟨n' - 1,by omega⟩;go_wp2;go_quiet (fail)
   go_upto_block 2 with(fail)
   go_cut [3] (fun s3 wx=>s3= .int .i64 at'/\∃e,at'<e/\Yk B b s e sp' v' wx/\Yg b v w wx/\Hid (YO s n' e (sp'++[(at',e)])=YO s n at_ sp))
   case first=>
    by_cases e1:c1=1
    ·subst e1;go_wp2;go_quiet (fail)
     go_wp2;have hA2:=fun k=>(hA.drewN k).set1 (at'+1) Zo Zo;go_roundw
     case rel=>exact⟨at'+1,sp',v',n',by omega,hA2 _,Yld hR hlt (by rw[<-HB.out]; exact HV.out),(hK.drewN _).set _ _,hv⟩
     case measure=>exact Yh0 hA.row (hA2 _).row Zo hlt
    ·have n1:(c1==1)=false:=by simpa using e1
     have HC:Hid (¬cls (bt s at').toNat=1):=fun h=>e1 (HV.out.symm.trans (by rw[<-HB.out] at h; exact h));clear e1;by_cases hst:Y7 s at'=true
     ·have e42:(((s[at']'hlt).toNat:Int)==42)=true:=by
       rw[HB.out]; unfold Y7 at hst; simp only[Bool.and_eq_true] at hst; exact hst.1
      have hI:=fun w=>Tryz.strings_IndexByte (s.extract at' s.size) 10 w;generalize hix:Lib.indexByte (s.extract at' s.size).data.toList (10:Int).toNat.toUInt8=ix at hI;have HI:=Zh hix;clear hix;have hst':=Zh hst;by_cases hz:at'=0
      ·have hz0:(((at':Nat):Int)==0)=true:=by simpa using hz
       clear hz hst;go_wp2;go_quiet (fail)
       go_wp2;go_quiet (fail)
       go_wp2;go_quiet ((go_at_call 87; exact Yb4 hI))
       clear hI;by_cases hi:ix<0
       ·obtain⟨e,hsum,he1,he2,HSTEP⟩:=YhN hR hlt HC.out hst' HI.out hi;go_wp2;go_quiet (fail)
        go_wp2_with (fail);have hA3:=fun k=>(hA.drewN k).set1 e he2 Zo;have hK3:=fun k=>(hK.drewN k).set 1 (.int .i64 e);go_meet
        exact⟨rfl,e,he1,hA3 _,hK3 _,HSTEP⟩
       ·obtain⟨e,hsum,he1,he2,HSTEP⟩:=YhM hR hlt HC.out hst' HI.out Zo;go_wp2_with (fail);have hA3:=fun k=>(hA.drewN k).set1 e he2 Zo;have hK3:=fun k=>(hK.drewN k).set 1 (.int .i64 e);go_meet
        exact⟨rfl,e,he1,hA3 _,hK3 _,HSTEP⟩
      ·have hz0:(((at':Nat):Int)==0)=false:=by simpa using hz
       have hlt2:at' - 1<s.size:=Zo;have e10:(((s[at' - 1]'hlt2).toNat:Int)==10)=true:=by
        rw[Je hlt2]; unfold Y7 at hst; simp only[Bool.and_eq_true,Bool.or_eq_true,decide_eq_true_eq] at hst; exact hst.2.resolve_left hz
       have w1:IntKind.i64.wrap ((at':Int) - 1)=at' - 1:=IntWalk.i64_in _ Zo;have p1:(0:Int)<=(at':Int) - 1:=Zo;have p2:(1:Int)<=(at':Int):=Zo;have p3:(at':Int) - 1<(s.size:Int):=Zo;have t1:((at':Int) - 1).toNat=at' - 1:=Zo;clear hz hst;go_wp2;go_quiet (fail)
       go_wp2;go_quiet (fail)
       go_wp2;go_quiet ((go_at_call 87; exact Yb4 hI))
       clear hI;by_cases hi:ix<0
       ·obtain⟨e,hsum,he1,he2,HSTEP⟩:=YhN hR hlt HC.out hst' HI.out hi;go_wp2;go_quiet (fail)
        go_wp2_with (fail);have hA3:=fun k=>(hA.drewN k).set1 e he2 Zo;have hK3:=fun k=>(hK.drewN k).set 1 (.int .i64 e);go_meet
        exact⟨rfl,e,he1,hA3 _,hK3 _,HSTEP⟩
       ·obtain⟨e,hsum,he1,he2,HSTEP⟩:=YhM hR hlt HC.out hst' HI.out Zo;go_wp2_with (fail);have hA3:=fun k=>(hA.drewN k).set1 e he2 Zo;have hK3:=fun k=>(hK.drewN k).set 1 (.int .i64 e);go_meet
        exact⟨rfl,e,he1,hA3 _,hK3 _,HSTEP⟩
     ·have hns:Y7 s at'=false:=by simpa using hst
      have HNS:=Zh hns;have hP0:=fun w=>Tryz.strings_HasPrefix (s.extract at' s.size) ⟨#[47,42]⟩ w;rw[YfI s at' hlt] at hP0;clear hst;by_cases e42:((s[at']'hlt).toNat:Int)=42
      ·have e42':(((s[at']'hlt).toNat:Int)==42)=true:=beq_iff_eq.2 e42;have hz:at'≠0:=by
        rintro rfl;rw[Je hlt] at e42;unfold Y7 at hns; rw[e42] at hns; simp at hns
       have hz0:(((at':Nat):Int)==0)=false:=by simpa using hz
       have hlt2:at' - 1<s.size:=Zo;have e10:(((s[at' - 1]'hlt2).toNat:Int)==10)=false:=by
        rw[Je hlt] at e42;rw[Je hlt2]; unfold Y7 at hns; rw[e42] at hns; simp[hz] at hns; simpa using hns
       have w1:IntKind.i64.wrap ((at':Int) - 1)=at' - 1:=IntWalk.i64_in _ Zo;have p1:(0:Int)<=(at':Int) - 1:=Zo;have p2:(1:Int)<=(at':Int):=Zo;have p3:(at':Int) - 1<(s.size:Int):=Zo;have t1:((at':Int) - 1).toNat=at' - 1:=Zo;have ho:isOpen s at'=false:=by rw[Je hlt] at e42; unfold isOpen; rw[e42]; rfl
       have HO:=Zh ho;rw[ho] at hP0;clear hz hns e42 ho;go_wp2;go_quiet (fail)
       go_wp2;go_quiet (fail)
       go_wp2;go_quiet ((go_at_call 37; exact Yb4 hP0))
       clear hP0;go_wp2;go_ret;exact YhQ hR hlt HC.out HNS.out HO.out (by repeat (first | exact hA | refine Yk.drewN ?_ _)) (by repeat (first | exact hK | refine Yg.drewN ?_ _)) hv
      ·have e42':(((s[at']'hlt).toNat:Int)==42)=false:=beq_eq_false_iff_ne.2 e42;clear hns e42;by_cases ho:isOpen s at'=true
       ·have HO:=Zh ho;rw[ho] at hP0;have hlt2:=Yp8 ho;have w2:IntKind.i64.wrap ((at':Int)+2)=at'+2:=IntWalk.i64_in _ Zo;have p1:(0:Int)<=(at':Int)+2:=Zo;have p3:(at':Int)+2<=(s.size:Int):=Zo;have t1:((at':Int)+2).toNat=at'+2:=Zo;have hm2:=hK.maxLen hw0 hB hg hbB hm;have hX:=fun k=>Tryz.strings_Index (s.extract (at'+2) s.size) ⟨#[42,47]⟩ m (wr.drewN k) (by rw[ByteArray.size_extract]; omega) hm2;generalize hix:Lib.index (s.extract (at'+2) s.size).data.toList (⟨#[42,47]⟩:ByteArray).data.toList=ix at hX;have HI:=Zh hix;clear ho hix;go_wp2;go_quiet (fail)
        go_wp2;go_quiet (fail)
        go_wp2;go_quiet ((go_at_call 37; exact Yb4 hP0))
        clear hP0;go_wp2;go_quiet ((go_at_call 76; exact YoN (hX _)))
        clear hX;by_cases hi:ix<0
        ·have HE:=YmQ hR hlt HC.out HNS.out HO.out HI.out hi;go_wp2;go_ret;exact YoB HE.out hK rfl rfl rfl rfl
        ·obtain⟨e,hsum,he1,he2,HSTEP⟩:=YmP hR hlt HC.out HNS.out HO.out HI.out Zo;have w4:IntKind.i64.wrap (ix+4)=ix+4:=IntWalk.i64_in _ Zo;go_wp2_with (fail);have hA3:=fun k=>(hA.drewN k).set1 e he2 Zo;have hK3:=fun k=>(hK.drewN k).set 1 (.int .i64 e);go_meet
         exact⟨rfl,e,he1,hA3 _,hK3 _,HSTEP⟩
       ·have ho:isOpen s at'=false:=by simpa using ho
        have HO:=Zh ho;rw[ho] at hP0;clear ho;go_wp2;go_quiet (fail)
        go_wp2;go_quiet (fail)
        go_wp2;go_quiet ((go_at_call 37; exact Yb4 hP0))
        clear hP0;go_wp2;go_ret;exact YhQ hR hlt HC.out HNS.out HO.out (by repeat (first | exact hA | refine Yk.drewN ?_ _)) (by repeat (first | exact hK | refine Yg.drewN ?_ _)) hv
   case rest=>
    obtain⟨rfl,e,he1,hA4,hK4,HSTEP⟩:=hcut;have he2:=hA4.le;have hc1:=hA4.row.c1;have hc3:=hA4.row.c3;have hf3:=hA4.row.frozen 258;have hown:=hA4.own;have hfew:=hA.few;obtain⟨i0,hi0,hz0,hz1,hz2⟩:=info_parts Ynv;have hBW:B<=wc.heap.size:=Nat.le_trans hB hK4.size;have ag:=hA4.apart;have lb:=hA4.row.lt;go_wp2_with (fail);go_region_law ((refine step_append_lies _ Zr _ _ _ Zr B 134 i0 _ 2 16 Tryz.underlying131 hi0 hz0 hz1 hz2 rfl Zo v' sp'.length (YaK sp') Zr ((hown.alloc _).drew) ⟨wc.heap.size,0,none⟩ 1 1 [.int .i64 at',.int .i64 e] Zr Zr (World.news_of_block (cs:=#[.int .i64 at',.int .i64 e]) (t:=134) (fr:=(0,0)) (heap_alloc_new wc _)) (by simp[Value.oneCell']) Zo (by unfold maxLen; omega) Zo (by simp; omega) (wc.heap.size+1) Zs ?_; intro gg cap w1 hown1 hgrow hat hlt9; have hff:=frozen_far hgrow (p:=⟨b,258,none⟩) lb ag hf3; have hcc:=cell_far hgrow (p:=⟨b,258,none⟩) lb ag hc3))
    all_goals
     have hP:=Yk.push hA4 hA.few he1 hown1 hgrow;have hPK:=Yg.push hK4 hv hgrow (.slice (some ⟨gg,0,none⟩) (sp'.length+1) cap);have hPv:=YoO (n:=sp'.length+1) (cap:=cap) hv hat (Nat.le_succ_of_le hK4.size);clear hff hcc;go_wp2;go_roundw
     case rel=>exact⟨e,sp'++[(at',e)],_,n',by omega,hP,HSTEP,hPK,hPv⟩
     case measure=>exact Yh0 hA.row hP.row he1 hlt
  ·have hl:decide (at'<s.size)=false:=by simpa using hlt
   go_wp2;go_quiet (fail)
   go_wp2;go_ret;exact YoC hR hlt (hA.drewN _) (hK.drewN _) hv
end Go.Proofs.YteamjdmhdfjopaaGreatDoor
