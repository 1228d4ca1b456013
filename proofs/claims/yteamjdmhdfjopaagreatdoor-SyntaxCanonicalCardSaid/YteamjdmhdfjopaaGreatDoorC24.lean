/- A part of the proof; it holds the texts Tokw Qd Oxp Sqs Wrb Wrc Wrd Wre Rlb Rlc Rld Wrh (names and blanks shortened). -/
import Derived.Test.YteamjdmhdfjopaaGreatDoorC23
import Derived.Test.YteamjdmhdfjopaaGreatDoorC21
import Derived.Test.YteamjdmhdfjopaaGreatDoorC1
import Derived.Test.YteamjdmhdfjopaaGreatDoorC2
import Derived.Test.YteamjdmhdfjopaaGreatDoorC9
import Derived.Test.YteamjdmhdfjopaaGreatDoorC10
import Derived.Lib.UnsafeStr
import Derived.Lib.BufferRead
import Derived.Deep.RegionWith
import Derived.Test.YteamjdmhdfjopaaGreatDoorC5
import Derived.Test.YteamjdmhdfjopaaGreatDoorC11
namespace Go.Proofs.YteamjdmhdfjopaaGreatDoor
open Go.RowKit
set_option maxRecDepth 100000
set_option maxHeartbeats 8000000
set_option linter.unusedVariables false
set_option linter.unusedSimpArgs false
set_option linter.unnecessarySimpa false
structure TokW (B b:Nat)(s:ByteArray)(fr i:Nat)(sp:List (Nat×Nat))(v:Value)(w wr:World)(t:Array Value):Prop where
 scan:Yk B b s i sp v wr
 kept:Yg b v w wr
 nm:wr.heap[w.heap.size]? =some (.cells #[.pointer (some ⟨b,0,none⟩)] 123 (0,0))
 res:wr.heap[w.heap.size+1]? =some (.cells zTok 136 (0,0))
 pl:wr.heap[w.heap.size+2]? =some (.cells #[.int .i64 fr] 3 (0,0))
 tok:wr.heap[w.heap.size+3]? =some (.cells t 136 (0,0))
theorem Yk1 {B b:Nat}{s:ByteArray}{at_:Nat}{sp:List (Nat×Nat)}{v:Value}{w W:World}(hw:Yk B b s at_ sp v w)
 (hW:((((w.alloc (.cells #[.pointer (some ⟨b,0,none⟩)] 123)).alloc (.cells zTok 136)).alloc (.cells #[.int .i64 at_] 3)).alloc (.cells zTok 136))=W):
 TokW B b s at_ at_ sp v w W zTok/\W.heap.size=w.heap.size+4:=by
 subst hW;have h1:=below_alloc1 w (.cells #[.pointer (some ⟨b,0,none⟩)] 123);have n1:=heap_alloc_new w (.cells #[.pointer (some ⟨b,0,none⟩)] 123);have z1:(w.alloc (.cells #[.pointer (some ⟨b,0,none⟩)] 123)).heap.size=w.heap.size+1:=Zs;generalize w.alloc _=W1 at h1 n1 z1⊢;have h2:=h1.trans ((below_alloc1 W1 (.cells zTok 136)).mono Zo);have n2:=heap_alloc_new W1 (.cells zTok 136);have m1:=(Below.heap_alloc W1 (.cells zTok 136) w.heap.size Zo).trans n1;have z2:(W1.alloc (.cells zTok 136)).heap.size=w.heap.size+2:=by simp[z1]
 generalize W1.alloc _=W2 at h2 n2 m1 z2⊢;rw[z1] at n2;have h3:=h2.trans ((below_alloc1 W2 (.cells #[.int .i64 at_] 3)).mono Zo);have n3:=heap_alloc_new W2 (.cells #[.int .i64 at_] 3);have m1:=(Below.heap_alloc W2 (.cells #[.int .i64 at_] 3) w.heap.size Zo).trans m1;have m2:=(Below.heap_alloc W2 (.cells #[.int .i64 at_] 3) (w.heap.size+1) Zo).trans n2;have z3:(W2.alloc (.cells #[.int .i64 at_] 3)).heap.size=w.heap.size+3:=by simp[z2]
 generalize W2.alloc _=W3 at h3 n3 m1 m2 z3⊢;rw[z2] at n3;have h4:=h3.trans ((below_alloc1 W3 (.cells zTok 136)).mono Zo);have n4:=heap_alloc_new W3 (.cells zTok 136);have m1:=(Below.heap_alloc W3 (.cells zTok 136) w.heap.size Zo).trans m1;have m2:=(Below.heap_alloc W3 (.cells zTok 136) (w.heap.size+1) Zo).trans m2;have m3:=(Below.heap_alloc W3 (.cells zTok 136) (w.heap.size+2) Zo).trans n3;have z4:(W3.alloc (.cells zTok 136)).heap.size=w.heap.size+4:=by simp[z3]
 generalize W3.alloc _=W4 at h4 n4 m1 m2 m3 z4⊢;rw[z3] at n4;exact⟨⟨⟨World.rowIs.of_block hw.row (h4.block _ hw.row.lt),(Keep.of_below (S:=fun _=>False) h4).owns hw.own (fun _ _ q=>q),hw.le,hw.few⟩,Keep.of_below h4,m1,m2,m3,n4⟩,z4⟩
theorem Yqm:(Tryz.prog.info? 5).map (fun i=>(i.zero,i.size,i.bytes))=some (some (.int .u8 0),1,1):=by kernel_rfl
theorem YgI (w:World):(zeroValue 5).run Tryz.prog w= .ok (.int .u8 0) w:=by kernel_rfl
structure QmW (w:World)(mk:Int)(vis:List Nat)(wr:World):Prop where
 below:Below w.heap.size w wr
 size:wr.heap.size=w.heap.size+3
 bk:wr.heap[w.heap.size]? =some (Yx (Yav (escs mk) vis))
 es:wr.heap[w.heap.size+1]? =some (Yx (escs mk))
 it:wr.heap[w.heap.size+2]? =some (JL (w.heap.size+1) (escs mk).length vis)
def todo (n r:Nat)(wr:World):Nat:=((List.range n).filter fun i=>!(wr.iterSeen r).contains i).length
section
variable {w wr w1 w2:World}{mk:Int}{vis:List Nat}{i:Nat}{p:Int×Int}
theorem QmW.seen (h:QmW w mk vis wr):wr.iterSeen (w.heap.size+2)=vis.toArray:=by
 unfold World.iterSeen; rw[h.it]; rfl
theorem QmW.start (w:World)(mk:Int):QmW w mk [] (((w.alloc (Yx [])).alloc (Yx (escs mk))).alloc (JL (w.heap.size+1) (escs mk).length [])):=by
 have hb:=((below_alloc1 w (Yx [])).alloc Zs (Yx (escs mk))).alloc (by simp; omega) (JL (w.heap.size+1) (escs mk).length []);refine⟨hb,by simp,?_,?_,?_⟩
 ·exact(Below.heap_alloc _ _ _ (by simp; omega)).trans ((Below.heap_alloc _ _ _ Zs).trans (heap_alloc_new w _))
 ·refine(Below.heap_alloc _ _ _ Zs).trans ?_;have:=heap_alloc_new (w.alloc (Yx [])) (Yx (escs mk));simpa using this
 ·have:=heap_alloc_new ((w.alloc (Yx [])).alloc (Yx (escs mk))) (JL (w.heap.size+1) (escs mk).length []);simpa using this
theorem QmW.step (h:QmW w mk vis wr)(k1:Keep (fun k=>k=w.heap.size+2) wr w1)(s1:w1.heap.size=wr.heap.size)(i1:w1.heap[w.heap.size+2]? =some (JL (w.heap.size+1) (escs mk).length (vis++[i])))
 (k2:Keep (fun k=>k=w.heap.size) w1 w2)(s2:w2.heap.size=w1.heap.size)(b2:w2.heap[w.heap.size]? =some (Yx (Yav (escs mk) vis++[(p.2,p.1)])))(hp:(escs mk)[i]? =some p):QmW w mk (vis++[i]) w2:=by
 have hs:=h.size;refine⟨(h.below.trans (k1.below Zo (fun k hk e=>by omega))).trans (k2.below Zo (fun k hk e=>by omega)),by omega,by rw[b2,Ymk hp],?_,?_⟩
 ·exact(k2.block _ Zo Zo).trans ((k1.block _ Zo Zo).trans h.es)
 ·exact(k2.block _ Zo Zo).trans i1
theorem QmW.less (h:QmW w mk vis wr)(h2:QmW w mk (vis++[i]) w2)(hi:i<(escs mk).length)(hv:i∉vis):todo (escs mk).length (w.heap.size+2) w2<todo (escs mk).length (w.heap.size+2) wr:=by
 unfold todo;rw[h.seen,h2.seen];refine filter_lt _ _ (fun x hx=>?_) i ?_ ?_ _ (List.mem_range.2 hi)
 ·simp only[Bool.not_eq_true',List.contains_toArray,List.contains_eq_mem,List.mem_append,decide_eq_false_iff_not] at hx⊢;exact fun q=>hx (.inl q)
 ·simpa using hv
 ·simp
end
theorem Ygr (m:UInt8)(hm:m=39\/m=34):((escs m.toNat).map (·.2)).Nodup:=by
 rcases hm with rfl | rfl<;>decide
theorem Yq8:∀i:Fin 256,Yo (i.val:Int) ((escs 39).map fun p=>(p.2,p.1))=(Yfw 39 (UInt8.ofNat i.val)).map fun e=>(e.toNat:Int):=by decide+kernel
theorem Yq9:∀i:Fin 256,Yo (i.val:Int) ((escs 34).map fun p=>(p.2,p.1))=(Yfw 34 (UInt8.ofNat i.val)).map fun e=>(e.toNat:Int):=by decide+kernel
theorem Yn0 {m:UInt8}(hm:m=39\/m=34){vis:List Nat}(hall:∀i,i<(escs m.toNat).length->i∈vis)(b:UInt8):Yo (b.toNat:Int) (Yav (escs m.toNat) vis)=(Yfw m b).map fun e=>(e.toNat:Int):=by
 rw[Yoy (Ygr m hm) hall];rcases hm with rfl | rfl
 ·have:=Yq8 ⟨b.toNat,b.toNat_lt⟩;dsimp only at this;rwa [UInt8.ofNat_toNat] at this
 ·have:=Yq9 ⟨b.toNat,b.toNat_lt⟩;dsimp only at this;rwa [UInt8.ofNat_toNat] at this
structure QdW (w:World)(o:Nat)(bk:List (Int×Int))(s:ByteArray)(out:List UInt8)(vv:Value)(wr:World):Prop where
 below:Below w.heap.size w wr
 mp:wr.heap[w.heap.size]? =some (Yx bk)
 row:YaW o (bu s) s.size wr
 ob:o<wr.heap.size
 own:wr.ownsRow (w.heap.size+1) 5 1 vv out.length (Lib.byteCells out)
 far:vv.ownBlock≠some o
section
variable {w wr w1:World}{o:Nat}{bk:List (Int×Int)}{s:ByteArray}{out:List UInt8}{vv:Value}
theorem YaW.keep {o n:Nat}{f:Nat->UInt8}{W W':World}{S:Nat->Prop}(h:YaW o f n W)(hk:Keep S W W')(ho:o<W.heap.size)(hS:¬S o):YaW o f n W':=
 ⟨fun x hx=>(hk.cell (p:=⟨o,x,none⟩) ho hS).trans (h.cell x hx),fun x hx=>(World.frozen?_of_block (w:=W) (hk.block o ho hS)).trans (h.free x hx)⟩
theorem QdW.drewN (h:QdW w o bk s out vv wr)(k:Nat):QdW w o bk s out vv (wr.drewN k):=⟨below_drewN h.below k,h.mp,⟨h.row.cell,h.row.free⟩,h.ob,h.own,h.far⟩
theorem QdW.gt (h:QdW w o bk s out vv wr):w.heap.size<wr.heap.size:=by obtain⟨q,_⟩:=Zg h.mp; exact q
theorem QdW.push {obj:Obj}{gg cap n:Nat}{cs:List Value}(h:QdW w o bk s out vv wr)(news:List UInt8)(hcs:cs=Lib.byteCells out++Lib.byteCells news)(hn:n=(out++news).length)
 (h1:w1.ownsRow (w.heap.size+1) 5 1 (.slice (some ⟨gg,0,none⟩) n cap) n cs)(hg:(wr.alloc obj).grownBy w1 vv.ownBlock)
 (hat:vv.ownBlock=some gg\/gg=(wr.alloc obj).heap.size):QdW w o bk s (out++news) (.slice (some ⟨gg,0,none⟩) n cap) w1:=by
 subst hcs hn;have hgt:=h.gt;have hob:=h.ob;have hK:Keep (fun k=>vv.ownBlock=some k) wr w1:=Keep.trans (Keep.of_alloc (S:=fun k=>vv.ownBlock=some k) wr obj) (Keep.of_grown hg) (fun _ _ q=>q);have hown:∀k,vv.ownBlock=some k->w.heap.size+1<=k:=fun k q=>(h.own.lt k q).1;refine⟨h.below.trans (hK.below h.below.size (fun k hk q=>by have:=hown k q; omega)),(hK.block _ hgt (fun q=>by have:=hown _ q; omega)).trans h.mp,h.row.keep hK h.ob h.far,?_,?_,?_⟩
 ·exact Nat.lt_of_lt_of_le h.ob hK.size
 ·rw[show Lib.byteCells (out++news)=Lib.byteCells out++Lib.byteCells news by simp[Lib.byteCells]];exact h1
 ·intro q;simp only[Value.ownBlock,Option.some.injEq] at q;subst q;rcases hat with q | q
  ·exact h.far q
  ·simp at q; omega
theorem QdW.text (h:QdW w o bk s out vv wr):(convert 129 9 vv).run Tryz.prog wr= .ok (.string ⟨out.toArray⟩) wr:=by
 rcases h.own.2 with⟨e,h0⟩ | ⟨g,cap,cur,e,_⟩
 ·rw[e,List.length_eq_zero_iff.1 h0];exact Lib.run_convert_nil_bytes wr 129 9 5 0 Tryz.underlying129 Tryz.underlying5 Tryz.underlying9
 ·have hc:=h.own.cells (g:=g) (by rw[e]; rfl);rw[e];exact run_convert_bytes_back wr 129 9 5 ⟨g,0,none⟩ cap out Tryz.underlying129 Tryz.underlying5 Tryz.underlying9 (fun j hj=>hc j _ (by simp[Lib.byteCells,hj]))
end
theorem Yrb:∀i:Fin 256,bits BinOp.and IntKind.u8 (i.val:Int) 15=(i.val:Int)%16:=by decide+kernel
def hexB:ByteArray:=⟨#[48,49,50,51,52,53,54,55,56,57,97,98,99,100,101,102]⟩
theorem Yqp:∀n:Fin 16,hexB[n.val]'(Nat.lt_of_lt_of_le n.isLt Zd)=hexd n.val:=by decide+kernel
theorem Yhg (x:Int)(n:Nat)(hx:x=n)(hn:n<16)(h:x.toNat<hexB.size):hexB[x.toNat]'h=hexd n:=by
 subst hx;exact Yqp ⟨n,hn⟩
theorem QOut.put {m:UInt8}{s:ByteArray}{k:Nat}{out l:List UInt8}(h:QOut m s k ⟨out.toArray⟩)(hk:k<s.size)(hl:l=escB m (bu s k)):QOut m s (k+1) ⟨(out++l).toArray⟩:=by
 have:=h.step (x:=⟨l.toArray⟩) hk hl;unfold QOut at this⊢;rw[<-this,ByteArray.data_append];simp
theorem Ygd (s:ByteArray)(m:UInt8)(hm:m=39\/m=34)(w:World)(hs:s.size<=1000000):
 Calls Tryz.prog 128 #[.string s,.int .u8 m.toNat] w fun e w'=>e= .returned (.string (YX m s))/\Below w.heap.size w w':=by
 have hE:=fun w=>Yfo (m.toNat:Int) w;have HM:=Zh hm;have hnd:=Ygr m hm;have HST:=Zh (QmW.start w m.toNat);clear hm;generalize hmk:(m.toNat:Int)=mk at hE hnd HST;have HMK:=Zh hmk;clear hmk;have hmm:=@run_makeMap Tryz.prog;go_enter Tryz.func128,Tryz.ntmps128;go_wp2_with fail;refine(hE _).mono ?_;rintro e w' ⟨rfl,rfl⟩;clear hE;have hes:((w.alloc (Yx [])).alloc (Yx (escs mk))).heap[w.heap.size+1]? =some (Yx (escs mk)):=by
  have:=heap_alloc_new (w.alloc (Yx [])) (Yx (escs mk));simpa using this
 go_wp2_with (at_range; refine Yc2 rfl (.tmp 15) 259 rfl 5 5 Tryz.underlying259 (w.heap.size+1) (escs mk) hes rfl ?_);go_frame
 simp only[World.size_alloc];go_loopw [] (fun wr=>∃vis,Hid (QmW w mk vis wr)) (fun wr=>todo (escs mk).length (w.heap.size+2) wr)
 case atStart=>exact⟨[],HST⟩
 case round=>
  obtain⟨vis,HQ⟩:=hrel;have HSZ:=Zh HQ.out.size;clear HST hes hmm;go_wp2_with (at_next; go_loud (refine Ydt Zr (.tmp 16) Zr (w.heap.size+2) (w.heap.size+1) (escs mk) vis Zr HQ.out.it HQ.out.es Zo ?_ ?_))
  ·intro hall;obtain⟨wo,rfl⟩:∃wo:World,wo=wr:=⟨_,rfl⟩;have HB:Hid (∀b:UInt8,Yo (b.toNat:Int) (Yav (escs mk) vis)=(Yfw m b).map fun e=>(e.toNat:Int)):=Zh fun b=>by
    rw[<-HMK.out] at hall⊢;exact Yn0 HM.out hall b
   have hbk:=HQ.out.bk;have HW:=Zh HQ.out.below;generalize Yav (escs mk) vis=bk at HB hbk;clear HQ hall hnd;obtain⟨i0,hi0,hz0,hz1,hz2⟩:=info_parts Yqm;obtain⟨cap,W,hcv,hO,hbW,hzW⟩:=open_bytes s (wo.alloc (.cells #[.int .u8 mk] 5));have HO:=Zh hO;have HBW:=Zh hbW;clear hO hbW;simp only[World.size_alloc] at hcv;have hob:wo.heap.size+1<W.heap.size+1:=by simp only[World.size_alloc] at hzW; omega
   have HQ0:Hid (QdW w (wo.heap.size+1) bk s [m] (.slice (some ⟨wo.heap.size,0,none⟩) 1 1) W):=Zh (by
    have hbs:=HBW.out.size;simp only[World.size_alloc] at hbs hzW;refine⟨(HW.out.trans ((below_alloc1 wo _).mono HW.out.size)).trans (HBW.out.mono (by have:=HSZ.out; simp; omega)),?_,?_,by omega,?_,?_⟩
    ·exact(HBW.out.block _ (by have:=HSZ.out; simp; omega)).trans ((Below.heap_alloc _ _ _ (by have:=HSZ.out; omega)).trans hbk)
    ·have:=HO.out; simpa using this
    ·refine⟨by simp[Lib.byteCells],.inr ⟨wo.heap.size,1,#[.int .u8 mk],rfl,by have:=HSZ.out; omega,?_,?_⟩⟩
     ·exact(HBW.out.block _ Zs).trans (heap_alloc_new wo _)
     ·rw[<-HMK.out]; simp[Lib.byteCells,maxLen]
    ·simp[Value.ownBlock])
   clear hob;have HT0:Hid (QOut m s 0 ⟨[m].toArray⟩):=Zh (by unfold QOut; simp);go_wp2;go_loopw [30,8] (fun i v8 w2=>∃(k:Nat) (out:List UInt8) (vv:Value),k<=s.size/\i= .int .i64 k/\vv=v8/\Hid (QdW w (wo.heap.size+1) bk s out vv w2)/\Hid (QOut m s k ⟨out.toArray⟩)) (fun i _ _=>s.size - (intOf i).toNat)
   case atStart=>exact⟨0,[m],_,Nat.zero_le _,rfl,rfl,HQ0,HT0⟩
   case round=>
    obtain⟨k,out,vv,hk,rfl,rfl,HQ,HT⟩:=hrel;have hgt:=HQ.out.gt;have hln:=HT.out.len;have hln2:(⟨out.toArray⟩:ByteArray).size=out.length:=List.size_toArray ..;rw[hln2] at hln;clear hln2;have hmp:=HQ.out.mp;have hown:=HQ.out.own;by_cases hkl:k<s.size
    ·have l1:decide ((k:Int)<(s.size:Int))=true:=Zt;have wk:IntKind.i64.wrap ((k:Int)+1)=k+1:=IntWalk.i64_in _ Zo;have hc:=HQ.out.row.cell k hkl;have hbf:=HB.out (bu s k);cases hb:Yfw m (bu s k) with
     |
      some e=>
      have HE:Hid ([92,e]=escB m (bu s k)):=Zh (by unfold escB; rw[hb]);rw[hb,Option.map_some] at hbf;clear hb;go_wp2_with (first
       |(refine Yl Zr (.tmp 35) (.tmp 36) 259 Zr 5 5 Tryz.underlying259 Tryz.underlying5 YgI w.heap.size bk hmp (bu s k).toNat Zr Zr ?_)
       |(at_builtin; go_loud (refine wpList_append_lies _ Zr _ _ _ Zr (w.heap.size+1) 5 i0 _ 1 1 Tryz.underlying129 hi0 hz0 hz1 hz2 Zr Zo _ out.length (Lib.byteCells out) Zr (hown.alloc _) ⟨wr.heap.size,0,none⟩ 2 2 [.int .u8 92,.int .u8 e.toNat] Zr Zr (World.news_of_block (cs:=#[.int .u8 92,.int .u8 e.toNat]) (t:=5) (fr:=(0,0)) (heap_alloc_new _ _)) (by simp[Value.oneCell']) Zo (by unfold maxLen; omega) Zo (by simp; omega) _ Zr ?_); intro gg cap2 w3 hown1 hgrow hat hlt9; have hP:=Zh (HQ.out.push [92,e] rfl Zs hown1 hgrow hat); clear hgrow hown1 hat hlt9))
      go_roundw
      case rel=>exact⟨k+1,_,_,by omega,by go_num,rfl,hP,Zh (HT.out.put hkl HE.out)⟩
      case measure=>simp[intOf]; omega
     |
      none=>
      rw[hb,Option.map_none] at hbf;by_cases hr:(bu s k).toNat<32\/126<(bu s k).toNat
      ·have HE:Hid ([92,120,hexd ((bu s k).toNat / 16),hexd ((bu s k).toNat%16)]=escB m (bu s k)):=Zh (by
        unfold escB; rw[hb]; show _=if _ then _ else _; rw[if_pos hr])
       clear hb;have hblt:=(bu s k).toNat_lt;have hi1:0<=((bu s k).toNat:Int) / 16/\((bu s k).toNat:Int) / 16<16:=Zo;have hi2:0<=((bu s k).toNat:Int)%16/\((bu s k).toNat:Int)%16<16:=Zo;have hv1:∀h,(⟨#[48,49,50,51,52,53,54,55,56,57,97,98,99,100,101,102]⟩:ByteArray)[(((bu s k).toNat:Int) / 16).toNat]'h=hexd ((bu s k).toNat / 16):=fun h=>Yhg _ _ Zo Zo h;have hv2:∀h,(⟨#[48,49,50,51,52,53,54,55,56,57,97,98,99,100,101,102]⟩:ByteArray)[(((bu s k).toNat:Int)%16).toNat]'h=hexd ((bu s k).toNat%16):=fun h=>Yhg _ _ Zo Zo h;have hv3:bits BinOp.and IntKind.u8 ((bu s k).toNat:Int) 15=((bu s k).toNat:Int)%16:=Yrb ⟨(bu s k).toNat,hblt⟩;clear hblt;have hr2:(((bu s k).toNat:Int)<32)\/(¬((bu s k).toNat:Int)<32/\(126:Int)<(bu s k).toNat):=Zo;clear hr;rcases hr2 with hr2 | ⟨hr2,hr3⟩
       ·have d1:decide (((bu s k).toNat:Int)<32)=true:=decide_eq_true hr2;clear hr2;go_wp2_with (refine Yl Zr (.tmp 35) (.tmp 36) 259 Zr 5 5 Tryz.underlying259 Tryz.underlying5 YgI w.heap.size bk hmp (bu s k).toNat Zr Zr ?_);go_region_law (refine step_append_lies _ Zr _ _ _ Zr (w.heap.size+1) 5 i0 _ 1 1 Tryz.underlying129 hi0 hz0 hz1 hz2 Zr Zo _ out.length (Lib.byteCells out) Zr (hown.alloc _) ⟨wr.heap.size,0,none⟩ 4 4 [.int .u8 92,.int .u8 120,.int .u8 (hexd ((bu s k).toNat / 16)).toNat,.int .u8 (hexd ((bu s k).toNat%16)).toNat] Zr Zr (World.news_of_block (cs:=#[.int .u8 92,.int .u8 120,.int .u8 (hexd ((bu s k).toNat / 16)).toNat,.int .u8 (hexd ((bu s k).toNat%16)).toNat]) (t:=5) (fr:=(0,0)) (heap_alloc_new _ _)) (by simp[Value.oneCell']) Zo (by unfold maxLen; omega) Zo (by simp; omega) _ Zr ?_; intro gg cap2 w3 hown1 hgrow hat hlt9; have hP:=Zh ((HQ.out.drewN 1).push [92,120,hexd ((bu s k).toNat / 16),hexd ((bu s k).toNat%16)] rfl Zs hown1 hgrow hat); clear hgrow hown1 hat hlt9)
        all_goals go_wp2
        all_goals go_roundw
        all_goals first
         |exact⟨k+1,_,_,by omega,by go_num,rfl,hP,Zh (HT.out.put hkl HE.out)⟩
         |(simp[intOf]; omega)
       ·have d1:decide (((bu s k).toNat:Int)<32)=false:=decide_eq_false hr2;have d2:decide ((126:Int)<(bu s k).toNat)=true:=decide_eq_true hr3;clear hr2 hr3;go_wp2_with (refine Yl Zr (.tmp 35) (.tmp 36) 259 Zr 5 5 Tryz.underlying259 Tryz.underlying5 YgI w.heap.size bk hmp (bu s k).toNat Zr Zr ?_);go_region_law (refine step_append_lies _ Zr _ _ _ Zr (w.heap.size+1) 5 i0 _ 1 1 Tryz.underlying129 hi0 hz0 hz1 hz2 Zr Zo _ out.length (Lib.byteCells out) Zr (hown.alloc _) ⟨wr.heap.size,0,none⟩ 4 4 [.int .u8 92,.int .u8 120,.int .u8 (hexd ((bu s k).toNat / 16)).toNat,.int .u8 (hexd ((bu s k).toNat%16)).toNat] Zr Zr (World.news_of_block (cs:=#[.int .u8 92,.int .u8 120,.int .u8 (hexd ((bu s k).toNat / 16)).toNat,.int .u8 (hexd ((bu s k).toNat%16)).toNat]) (t:=5) (fr:=(0,0)) (heap_alloc_new _ _)) (by simp[Value.oneCell']) Zo (by unfold maxLen; omega) Zo (by simp; omega) _ Zr ?_; intro gg cap2 w3 hown1 hgrow hat hlt9; have hP:=Zh ((HQ.out.drewN 1).push [92,120,hexd ((bu s k).toNat / 16),hexd ((bu s k).toNat%16)] rfl Zs hown1 hgrow hat); clear hgrow hown1 hat hlt9)
        all_goals go_wp2
        all_goals go_roundw
        all_goals first
         |exact⟨k+1,_,_,by omega,by go_num,rfl,hP,Zh (HT.out.put hkl HE.out)⟩
         |(simp[intOf]; omega)
      ·have HE:Hid ([bu s k]=escB m (bu s k)):=Zh (by
        unfold escB; rw[hb]; show _=if _ then _ else _; rw[if_neg hr])
       clear hb;have d1:decide (((bu s k).toNat:Int)<32)=false:=Zf;have d2:decide ((126:Int)<(bu s k).toNat)=false:=Zf;clear hr;go_wp2_with (first
        |(refine Yl Zr (.tmp 35) (.tmp 36) 259 Zr 5 5 Tryz.underlying259 Tryz.underlying5 YgI w.heap.size bk hmp (bu s k).toNat Zr Zr ?_)
        |(at_builtin; refine wpList_append_lies _ Zr _ _ _ Zr (w.heap.size+1) 5 i0 _ 1 1 Tryz.underlying129 hi0 hz0 hz1 hz2 Zr Zo _ out.length (Lib.byteCells out) Zr (hown.alloc _) ⟨wr.heap.size,0,none⟩ 1 1 [.int .u8 (bu s k).toNat] Zr Zr (World.news_of_block (cs:=#[.int .u8 (bu s k).toNat]) (t:=5) (fr:=(0,0)) (heap_alloc_new _ _)) (by simp[Value.oneCell']) Zo (by unfold maxLen; omega) Zo (by simp; omega) _ Zr ?_; intro gg cap2 w3 hown1 hgrow hat hlt9; have hP:=Zh (HQ.out.push [bu s k] rfl Zs hown1 hgrow hat); clear hgrow hown1 hat hlt9))
       go_roundw
       case rel=>exact⟨k+1,_,_,by omega,by go_num,rfl,hP,Zh (HT.out.put hkl HE.out)⟩
       case measure=>simp[intOf]; omega
    ·have l1:decide ((k:Int)<(s.size:Int))=false:=Zf;obtain rfl:k=s.size:=Zo;go_wp2_with (at_builtin; refine wpList_append_lies _ Zr _ _ _ Zr (w.heap.size+1) 5 i0 _ 1 1 Tryz.underlying129 hi0 hz0 hz1 hz2 Zr Zo _ out.length (Lib.byteCells out) Zr (hown.alloc _) ⟨wr.heap.size,0,none⟩ 1 1 [.int .u8 mk] Zr Zr (World.news_of_block (cs:=#[.int .u8 mk]) (t:=5) (fr:=(0,0)) (heap_alloc_new _ _)) (by simp[Value.oneCell']) Zo (by unfold maxLen; omega) Zo (by simp; omega) _ Zr ?_; intro gg cap2 w3 hown1 hgrow hat hlt9; have hP:=Zh (HQ.out.push [m] (by rw[<-HMK.out]; rfl) Zs hown1 hgrow hat); have htx:=hP.out.text; clear hgrow hown1 hat hlt9);go_ret;exact⟨by rw[<-HT.out.done]; rfl,hP.out.below⟩
  ·intro i p1 p2 w1 hp hv k1 s1 i1 hen;have hbk1:w1.heap[w.heap.size]? =some (Yx (Yav (escs mk) vis)):=(k1.block _ (by have:=HSZ.out; omega) Zo).trans HQ.out.bk;have hnew:=Yox hnd hp hv;go_wp2_with (refine YcI Zr _ _ _ 259 Zr 5 5 Tryz.underlying259 Tryz.underlying5 w.heap.size (Yav (escs mk) vis) hbk1 p2 p1 Zr Zr Zr hnew ?_; intro w2 k2 s2 b2);go_roundw
   case rel=>exact⟨_,Zh (HQ.out.step k1 s1 i1 k2 s2 b2 hp)⟩
   case measure=>exact HQ.out.less (HQ.out.step k1 s1 i1 k2 s2 b2 hp) (List.getElem?_eq_some_iff.1 hp).1 hv
theorem Yhz (w:World)(a b:Obj):((w.alloc a).alloc b).heap[w.heap.size]? =some a/\((w.alloc a).alloc b).heap[w.heap.size+1]? =some b/\Below w.heap.size w ((w.alloc a).alloc b)/\((w.alloc a).alloc b).heap.size=w.heap.size+2:=by
 refine⟨?_,?_,(below_alloc1 w a).alloc Zs b,by simp⟩
 ·exact(Below.heap_alloc _ _ _ Zs).trans (heap_alloc_new w a)
 ·have:=heap_alloc_new (w.alloc a) b;simpa using this
theorem YeZ (s:ByteArray)(mark:Int):∀(n i:Nat) (out out':List UInt8) (fin:Nat),quoN s mark n i out= .ok out' fin->out'.length+i<=out.length+fin
 |0,i,out,out',fin,h=>by simp[quoN] at h
 |
  n+1,i,out,out',fin,h=>by
  unfold quoN at h;split at h
  ·cases h; omega
  ·split at h
   ·cases h
   ·split at h
    ·have:=YeZ s mark n _ _ _ _ h; simp at this; omega
    ·split at h
     ·have:=YeZ s mark n _ _ _ _ h; simp at this; omega
     ·split at h
      ·cases h
      ·split at h
       ·have:=YeZ s mark n _ _ _ _ h; simp at this; omega
       ·cases h
theorem Ygq (s:ByteArray)(i j:Nat):(s.extract i j).size<=s.size:=by rw[ByteArray.size_extract]; omega
theorem Ylo {s:ByteArray}{k:Int}{fr fin:Nat}{kind:Int}{text:ByteArray}{f:Nat}(h:near s k fr fin= .ok kind text f):text.size<=s.size:=by
 unfold near at h;split at h
 ·cases h
 ·cases h; exact Ygq _ _ _
theorem Yl8 {s:ByteArray}{i:Nat}{kind:Int}{text:ByteArray}{fin:Nat}(h:tokN s i= .ok kind text fin):text.size<=s.size:=by
 unfold tokN at h;split at h
 ·rename_i hq
  have hL:∀out f,quoN s (bt s i) (s.size - i) (i+1) []= .ok out f->(⟨out.toArray⟩:ByteArray).size<=s.size:=fun out f hQ=>by
   have h1:=YeZ s (bt s i) _ _ _ _ _ hQ;have h2:=YcB s (bt s i) Zo _ _ _ _ _ hQ;have h3:(⟨out.toArray⟩:ByteArray).size=out.length:=List.size_toArray ..;simp at h1; omega
  cases hQ:quoN s (bt s i) (s.size - i) (i+1) [] with
  |bad=>rw[hQ] at h; cases h
  |
   ok out f=>
   rw[hQ] at h;have:=hL out f hQ;unfold quoR at h;dsimp only at h;split at h
   ·cases h; exact this
   ·split at h
    ·cases h
    ·cases h; exact this
 ·split at h
  ·cases h; exact Ygq _ _ _
  ·repeat' first
    |exact Ylo h
    |(cases h; done)
    |split at h
theorem YfS (s:ByteArray):∀(n i:Nat) (sp:List (Nat×Nat)) (acc l:List Tk) (sp':List (Nat×Nat)),i<=s.size->acc.length<=i->(∀x∈acc,x.text.size<=s.size)->Jd s n i sp acc= .ok l sp'->l.length<=s.size/\∀x∈l,x.text.size<=s.size
 |0,i,sp,acc,l,sp',hi,hz,ha,h=>by simp only[Jd,Ydr.ok.injEq] at h; rw[<-h.1]; exact⟨by omega,ha⟩
 |
  n+1,i,sp,acc,l,sp',hi,hz,ha,h=>by
  unfold Jd at h;split at h
  ·cases h
  ·rename_i j sp1 hs
   have hj:=JK s _ _ _ _ _ hi hs;split at h
   ·cases h; exact⟨by omega,ha⟩
   ·split at h
    ·cases h
    ·rename_i kind text fin ht
     have hf:=Ycx Zo ht;refine YfS s n _ _ _ _ _ hf.2 (by rw[List.length_append,List.length_singleton]; omega) (fun x hx=>?_) h;rcases List.mem_append.1 hx with q | q
     ·exact ha x q
     ·rw[List.mem_singleton] at q;subst q;exact Yl8 ht
theorem YdD {s:ByteArray}{l:List Tk}{sp:List (Nat×Nat)}(h:Jr s= .ok l sp):l.length<=s.size/\∀x∈l,x.text.size<=s.size:=by
 unfold Jr at h;split at h
 ·cases h
 ·exact YfS s _ _ _ _ _ _ (Nat.zero_le _) Zs Zs h
def escT (q b:UInt8):List UInt8:=
 if b=92\/b=q then [92,b] else if b=10 then [92,110] else if b=9 then [92,116] else if b.toNat<32\/126<b.toNat then [92,120,hexd (b.toNat / 16),hexd (b.toNat%16)] else [b]
theorem Yhm {a b:UInt8}:((a.toNat:Int)==(b.toNat:Int))=decide (a=b):=by
 rw[Bool.eq_iff_iff,beq_iff_eq,decide_eq_true_iff];exact⟨fun h=>UInt8.toNat_inj.1 Zo,fun h=>by rw[h]⟩
theorem Ybh {a:UInt8}(n:UInt8)(m:Int)(h:(n.toNat:Int)=m):((a.toNat:Int)==m)=decide (a=n):=by rw[<-h]; exact Yhm
theorem Yly (B b:Nat)(bs:List Value)(c q:UInt8)(w:World)(h:IsB B b bs w)(hlen:bs.length+4<=140737488355328)(hBw:B<=w.heap.size):
 Calls Tryz.prog 252 #[.pointer (some ⟨b,0,none⟩),.int .u8 c.toNat,.int .u8 q.toNat] w fun e w'=>e= .returned (.tuple #[])/\IsB B b (bs++Lib.byteCells (escT q c)) w'/\YP B b w w':=by
 have HI:=Zh h;clear h;by_cases h1:c=92\/c=q
 ·have HE:Hid (escT q c=[92,c]):=Zh (by unfold escT; rw[if_pos h1]);have go:∀x y:Bool,((c.toNat:Int)==92)=x->((c.toNat:Int)==(q.toNat:Int))=y->(x||y)=true->Calls Tryz.prog 252 #[.pointer (some ⟨b,0,none⟩),.int .u8 c.toNat,.int .u8 q.toNat] w fun e w'=>e= .returned (.tuple #[])/\IsB B b (bs++Lib.byteCells (escT q c)) w'/\YP B b w w':=by
   intro x y hx hy hxy;clear h1;go_enter Tryz.func252,Tryz.ntmps252;cases x with
   |
    true=>
    go_wp2_with fail;refine(Y5 B b _ 92 w HI.out Zo hBw).mono ?_;rintro e w1 ⟨rfl,hU1,hb1⟩;have HU1:=Zh hU1;have HB1:=Zh hb1;clear hU1 hb1;go_wp2_with fail;refine(Y5 B b _ c.toNat w1 (.inr HU1.out) (by simp; omega) (Nat.le_trans hBw HB1.out.size)).mono ?_;rintro e w2 ⟨rfl,hU2,hb2⟩;have HU2:=Zh hU2;have HB2:=Zh (HB1.out.trans hb2);clear hU2 hb2;go_wp2;go_end0
    exact⟨rfl,.inr (by rw[HE.out]; have:=HU2.out; simpa[Lib.byteCells] using this),HB2.out⟩
   |
    false=>
    cases y with
    |false=>cases hxy
    |
     true=>
     go_wp2_with fail;refine(Y5 B b _ 92 w HI.out Zo hBw).mono ?_;rintro e w1 ⟨rfl,hU1,hb1⟩;have HU1:=Zh hU1;have HB1:=Zh hb1;clear hU1 hb1;go_wp2_with fail;refine(Y5 B b _ c.toNat w1 (.inr HU1.out) (by simp; omega) (Nat.le_trans hBw HB1.out.size)).mono ?_;rintro e w2 ⟨rfl,hU2,hb2⟩;have HU2:=Zh hU2;have HB2:=Zh (HB1.out.trans hb2);clear hU2 hb2;go_wp2;go_end0
     exact⟨rfl,.inr (by rw[HE.out]; have:=HU2.out; simpa[Lib.byteCells] using this),HB2.out⟩
  exact go _ _ rfl rfl (by rw[Ybh 92 92 rfl,Yhm]; simpa using h1)
 ·have b1:((c.toNat:Int)==92)=false:=by rw[Ybh 92 92 rfl]; exact decide_eq_false fun k=>h1 (.inl k)
  have b2:((c.toNat:Int)==(q.toNat:Int))=false:=by rw[Yhm]; exact decide_eq_false fun k=>h1 (.inr k)
  by_cases h2:c=10
  ·have HE:Hid (escT q c=[92,110]):=Zh (by unfold escT; rw[if_neg h1,if_pos h2]);have b3:((c.toNat:Int)==10)=true:=by rw[Ybh 10 10 rfl]; exact decide_eq_true h2
   clear h1 h2;go_enter Tryz.func252,Tryz.ntmps252;go_wp2_with fail;refine(J1 B b _ _ w HI.out (by show _+2<=_; omega) hBw).mono ?_;rintro e w1 ⟨rfl,hU1,hb1⟩;have HU1:=Zh hU1;have HB1:=Zh hb1;clear hU1 hb1;go_wp2;go_end0
   exact⟨rfl,.inr (by rw[HE.out]; exact HU1.out),HB1.out⟩
  ·have b3:((c.toNat:Int)==10)=false:=by rw[Ybh 10 10 rfl]; exact decide_eq_false h2
   by_cases h3:c=9
   ·have HE:Hid (escT q c=[92,116]):=Zh (by unfold escT; rw[if_neg h1,if_neg h2,if_pos h3]);have b4:((c.toNat:Int)==9)=true:=by rw[Ybh 9 9 rfl]; exact decide_eq_true h3
    clear h1 h2 h3;go_enter Tryz.func252,Tryz.ntmps252;go_wp2_with fail;refine(J1 B b _ _ w HI.out (by show _+2<=_; omega) hBw).mono ?_;rintro e w1 ⟨rfl,hU1,hb1⟩;have HU1:=Zh hU1;have HB1:=Zh hb1;clear hU1 hb1;go_wp2;go_end0
    exact⟨rfl,.inr (by rw[HE.out]; exact HU1.out),HB1.out⟩
   ·have b4:((c.toNat:Int)==9)=false:=by rw[Ybh 9 9 rfl]; exact decide_eq_false h3
    by_cases h4:c.toNat<32\/126<c.toNat
    ·have HE:Hid (escT q c=[92,120,hexd (c.toNat / 16),hexd (c.toNat%16)]):=Zh (by unfold escT; rw[if_neg h1,if_neg h2,if_neg h3,if_pos h4]);have hblt:=c.toNat_lt;have hi1:0<=(c.toNat:Int) / 16/\(c.toNat:Int) / 16<16:=Zo;have hi2:0<=(c.toNat:Int)%16/\(c.toNat:Int)%16<16:=Zo;have hv1:∀h,(⟨#[48,49,50,51,52,53,54,55,56,57,97,98,99,100,101,102]⟩:ByteArray)[((c.toNat:Int) / 16).toNat]'h=hexd (c.toNat / 16):=fun h=>Yhg _ _ Zo Zo h;have hv2:∀h,(⟨#[48,49,50,51,52,53,54,55,56,57,97,98,99,100,101,102]⟩:ByteArray)[((c.toNat:Int)%16).toNat]'h=hexd (c.toNat%16):=fun h=>Yhg _ _ Zo Zo h;have hv3:bits BinOp.and IntKind.u8 (c.toNat:Int) 15=(c.toNat:Int)%16:=Yrb ⟨c.toNat,hblt⟩;have hr2:((c.toNat:Int)<32)\/(¬(c.toNat:Int)<32/\(126:Int)<c.toNat):=Zo;clear hblt h1 h2 h3 h4;rcases hr2 with hr2 | ⟨hr2,hr3⟩
     ·have d1:decide ((c.toNat:Int)<32)=true:=decide_eq_true hr2;clear hr2;go_enter Tryz.func252,Tryz.ntmps252;go_wp2_with fail;refine(J1 B b _ _ w HI.out (by show _+2<=_; omega) hBw).mono ?_;rintro e w1 ⟨rfl,hU1,hb1⟩;have HU1:=Zh hU1;have HB1:=Zh hb1;clear hU1 hb1;go_wp2_with fail;refine(Y5 B b _ (hexd (c.toNat / 16)).toNat w1 (.inr HU1.out) (by simp[Lib.strCells]; omega) (Nat.le_trans hBw HB1.out.size)).mono ?_;rintro e w2 ⟨rfl,hU2,hb2⟩;have HU2:=Zh hU2;have HB2:=Zh (HB1.out.trans hb2);clear hU2 hb2;go_wp2_with fail;refine(Y5 B b _ (hexd (c.toNat%16)).toNat w2 (.inr HU2.out) (by simp[Lib.strCells]; omega) (Nat.le_trans hBw HB2.out.size)).mono ?_;rintro e w3 ⟨rfl,hU3,hb3⟩;have HU3:=Zh hU3;have HB3:=Zh (HB2.out.trans hb3);clear hU3 hb3;go_wp2;go_end0
      exact⟨rfl,.inr (by rw[HE.out]; have:=HU3.out; simpa[Lib.byteCells,Lib.strCells] using this),HB3.out⟩
     ·have d1:decide ((c.toNat:Int)<32)=false:=decide_eq_false hr2;have d2:decide ((126:Int)<c.toNat)=true:=decide_eq_true hr3;clear hr2 hr3;go_enter Tryz.func252,Tryz.ntmps252;go_wp2_with fail;refine(J1 B b _ _ w HI.out (by show _+2<=_; omega) hBw).mono ?_;rintro e w1 ⟨rfl,hU1,hb1⟩;have HU1:=Zh hU1;have HB1:=Zh hb1;clear hU1 hb1;go_wp2_with fail;refine(Y5 B b _ (hexd (c.toNat / 16)).toNat w1 (.inr HU1.out) (by simp[Lib.strCells]; omega) (Nat.le_trans hBw HB1.out.size)).mono ?_;rintro e w2 ⟨rfl,hU2,hb2⟩;have HU2:=Zh hU2;have HB2:=Zh (HB1.out.trans hb2);clear hU2 hb2;go_wp2_with fail;refine(Y5 B b _ (hexd (c.toNat%16)).toNat w2 (.inr HU2.out) (by simp[Lib.strCells]; omega) (Nat.le_trans hBw HB2.out.size)).mono ?_;rintro e w3 ⟨rfl,hU3,hb3⟩;have HU3:=Zh hU3;have HB3:=Zh (HB2.out.trans hb3);clear hU3 hb3;go_wp2;go_end0
      exact⟨rfl,.inr (by rw[HE.out]; have:=HU3.out; simpa[Lib.byteCells,Lib.strCells] using this),HB3.out⟩
    ·have HE:Hid (escT q c=[c]):=Zh (by unfold escT; rw[if_neg h1,if_neg h2,if_neg h3,if_neg h4]);have d1:decide ((c.toNat:Int)<32)=false:=Zf;have d2:decide ((126:Int)<c.toNat)=false:=Zf;clear h1 h2 h3 h4;go_enter Tryz.func252,Tryz.ntmps252;go_wp2_with fail;refine(Y5 B b _ c.toNat w HI.out Zo hBw).mono ?_;rintro e w1 ⟨rfl,hU1,hb1⟩;have HU1:=Zh hU1;have HB1:=Zh hb1;clear hU1 hb1;go_wp2;go_end0
     exact⟨rfl,.inr (by rw[HE.out]; exact HU1.out),HB1.out⟩
def YaO (k:Int)(t:ByteArray):ByteArray:=if k=5 then ⟨#[115,46]⟩++t else if k=6 then ⟨#[116,46]⟩++t else if k=7 then ⟨#[101,46]⟩++t else ⟨#[]⟩
theorem Ylq (k:Int)(t:ByteArray)(ao:Option Addr)(n cap:Nat)(w:World):
 Calls Tryz.prog 263 #[.agg #[.int .i64 k,.string t,.slice ao n cap]] w fun e w'=>e= .returned (.bool (decide (5<=k)&&decide (k<=7)))/\Below w.heap.size w w':=by
 by_cases h1:5<=k
 ·have d1:decide (5<=k)=true:=decide_eq_true h1;by_cases h2:k<=7
  ·have d2:decide (k<=7)=true:=decide_eq_true h2;rw[d1,d2];clear h1 h2;go_enter Tryz.func263,Tryz.ntmps263;go_wp2;go_ret;exact⟨rfl,below_alloc1 w _⟩
  ·have d2:decide (k<=7)=false:=decide_eq_false h2;rw[d1,d2];clear h1 h2;go_enter Tryz.func263,Tryz.ntmps263;go_wp2;go_ret;exact⟨rfl,below_alloc1 w _⟩
 ·have d1:decide (5<=k)=false:=decide_eq_false h1;rw[d1];clear h1;go_enter Tryz.func263,Tryz.ntmps263;go_wp2;go_ret;exact⟨rfl,below_alloc1 w _⟩
theorem Ym3 (k:Int)(t:ByteArray)(ao:Option Addr)(n cap:Nat)(w:World)(ht:t.size<=1000000):
 Calls Tryz.prog 253 #[.agg #[.int .i64 k,.string t,.slice ao n cap]] w fun e w'=>e= .returned (.string (YaO k t))/\Below w.heap.size w w':=by
 have hV:=fun w=>Ylq k t ao n cap w;by_cases hk:k=5
 ·subst hk;go_enter Tryz.func253,Tryz.ntmps253;go_wp2_with fail;refine(hV _).mono ?_;rintro e w1 ⟨rfl,hb1⟩;have hT:=(hb1.block w.heap.size Zs).trans (heap_alloc_new w _);have t0:w1.cell? ⟨w.heap.size,0,none⟩=some (.int .i64 5):=by simp[World.cell?,hT]
  have t1:w1.cell? ⟨w.heap.size,1,none⟩=some (.string t):=by simp[World.cell?,hT]
  have HB:Hid (Below w.heap.size w w1):=Zh ((below_alloc1 w _).trans (hb1.mono Zs));have hv1:Utf8.encode (((⟨#[115,116,101]⟩:ByteArray)[0]'Zd).toNat:Int)=⟨#[115]⟩:=by decide+kernel
  clear hT hb1 hV;go_wp2;go_region
  go_wp2;go_ret;exact⟨rfl,below_drewN HB.out 1⟩
 ·by_cases hk6:k=6
  ·have hk:=hk6;clear hk6;subst hk;go_enter Tryz.func253,Tryz.ntmps253;go_wp2_with fail;refine(hV _).mono ?_;rintro e w1 ⟨rfl,hb1⟩;have hT:=(hb1.block w.heap.size Zs).trans (heap_alloc_new w _);have t0:w1.cell? ⟨w.heap.size,0,none⟩=some (.int .i64 6):=by simp[World.cell?,hT]
   have t1:w1.cell? ⟨w.heap.size,1,none⟩=some (.string t):=by simp[World.cell?,hT]
   have HB:Hid (Below w.heap.size w w1):=Zh ((below_alloc1 w _).trans (hb1.mono Zs));have hv1:Utf8.encode (((⟨#[115,116,101]⟩:ByteArray)[1]'Zd).toNat:Int)=⟨#[116]⟩:=by decide+kernel
   clear hT hb1 hV;go_wp2;go_region
   go_wp2;go_ret;exact⟨rfl,below_drewN HB.out 1⟩
  ·by_cases hk7:k=7
   ·have hk:=hk7;clear hk7;subst hk;go_enter Tryz.func253,Tryz.ntmps253;go_wp2_with fail;refine(hV _).mono ?_;rintro e w1 ⟨rfl,hb1⟩;have hT:=(hb1.block w.heap.size Zs).trans (heap_alloc_new w _);have t0:w1.cell? ⟨w.heap.size,0,none⟩=some (.int .i64 7):=by simp[World.cell?,hT]
    have t1:w1.cell? ⟨w.heap.size,1,none⟩=some (.string t):=by simp[World.cell?,hT]
    have HB:Hid (Below w.heap.size w w1):=Zh ((below_alloc1 w _).trans (hb1.mono Zs));have hv1:Utf8.encode (((⟨#[115,116,101]⟩:ByteArray)[2]'Zd).toNat:Int)=⟨#[101]⟩:=by decide+kernel
    clear hT hb1 hV;go_wp2;go_region
    go_wp2;go_ret;exact⟨rfl,below_drewN HB.out 1⟩
   ·have hz:(decide (5<=k)&&decide (k<=7))=false:=by
     rw[Bool.and_eq_false_iff,decide_eq_false_iff_not,decide_eq_false_iff_not]; omega
    have HN:Hid (YaO k t=⟨#[]⟩):=Zh (by unfold YaO; rw[if_neg hk,if_neg hk6,if_neg hk7]);rw[hz] at hV;clear hk hk6 hk7 hz;go_enter Tryz.func253,Tryz.ntmps253;go_wp2_with fail;refine(hV _).mono ?_;rintro e w1 ⟨rfl,hb1⟩;go_wp2;go_ret;exact⟨by rw[HN.out]; rfl,(below_alloc1 w _).trans (hb1.mono Zs)⟩
def Ts.headK:Ts->Option Int
 |.nil=>none
 |.cons k _ _ _=>some k
def Jm (p:Option Int):Bool:=p != some 1
def Jt (prev nextK:Option Int)(k:Int)(t:ByteArray)(kidsNo:Bool)(kw:List UInt8):List UInt8:=
 (if prev.isSome=true/\(k≠1\/Jm prev=true) then [32] else [])++
 (
  if k=1 then (if Jm prev then [39] else [])++escT 39 (bu t 0)++(if Jm nextK then [39] else [])
  else if k=2 then (if Yh 60 t=true then t.data.toList else 34::(t.data.toList.flatMap (escT 34)++[34]))
  else if k=3 then t.data.toList
  else if k=4 then 40::(kw++[41])
  else if k=8 then 60::(t.data.toList++((if kidsNo then [] else [32])++(kw++[62])))
  else (YaO k t).data.toList)
def Ts.wr:Option Int->Ts->List UInt8
 |_,.nil=>[]
 |prev,.cons k t kids rest=>Jt prev rest.headK k t (kids.len==0) (kids.wr none)++rest.wr (some k)
def Ydw (l:Ts):ByteArray:=⟨(l.wr none).toArray⟩
theorem Ybz (q b:UInt8):(escT q b).length<=4:=by
 unfold escT;repeat' split
 all_goals simp
theorem Ya2 (q:UInt8):∀l:List UInt8,(l.flatMap (escT q)).length<=4*l.length
 |[]=>by simp
 |
  b::l=>by
  have h1:=Ya2 q l;have h2:=Ybz q b;simp only[List.flatMap_cons,List.length_append,List.length_cons];omega
theorem Ye5 (k:Int)(t:ByteArray):(YaO k t).size<=t.size+2:=by
 have h:∀a b:UInt8,((⟨#[a,b]⟩:ByteArray)++t).size<=t.size+2:=fun a b=>by
  rw[ByteArray.size_append];show 2+_<=_;omega
 unfold YaO;split
 ·exact h _ _
 ·split
  ·exact h _ _
  ·split
   ·exact h _ _
   ·show 0<=_;omega
def YJ (e:List UInt8):List UInt8->Bool->List (List UInt8)->List (List UInt8)
 |last,_,[]=>[last++e]
 |last,true,x::r=>YJ e (last++x) false r
 |last,false,x::r=>last::YJ e x false r
def Yhy (e:List UInt8)(next:Option Int)(ws:List (List UInt8)):List (List UInt8):=
 if next=some 1 then (match ws with | x::r=>(39::(e++x.drop 1))::r | []=>[]) else (39::(e++[39]))::ws
def Ts.words:Ts->List (List UInt8)
 |.nil=>[]
 |
  .cons k t kids rest=>
  if k=4 then YJ [41] [40] true kids.words++rest.words
  else if k=8 then YJ [62] (60::t.data.toList) false kids.words++rest.words
  else if k=1 then Yhy (escT 39 (bu t 0)) rest.headK rest.words
  else Jt none none k t true []::rest.words
def Yc5 (left:Ts)(tests:List (Ts×Ts))(right subject:Ts)(noBlock:Bool):List (List UInt8):=
 left.words++(tests.flatMap fun p=>[44]::(p.1.words++[58]::p.2.words))++(if noBlock then [61]::right.words else [44]::(subject.words++[[58],[123]]))
def Ss.wLines (indent:Nat):Ss->List (Nat×List (List UInt8)×Bool)
 |.nil=>[]
 |.cons l t r s k rest=>(indent,Yc5 l t r s (k.len==0),k.len==0)::((if k.len=0 then [] else k.wLines (indent+2)++[(indent,[[125]],true)])++rest.wLines indent)
def YfB (ws:List (List UInt8))(ends:Bool):List (List UInt8):=
 if ends then ws.dropLast++[(ws.getLast?.getD [])++[59]] else ws
def JC (sep:List UInt8):List (List UInt8)->List UInt8
 |[]=>[]
 |[x]=>x
 |x::y::r=>x++sep++JC sep (y::r)
def Yc4 (l:Nat×List (List UInt8)×Bool):List UInt8:=List.replicate l.1 32++JC [32] (YfB l.2.1 l.2.2)
def YkX (first:Bool)(f:Fn):List UInt8:=
 (if first then [] else [10])++((if f.entry then [36,69,78,84,82,89,32] else [])++(f.name.data.toList++([32,123,10]++(((f.sents.wLines 2).flatMap fun l=>Yc4 l++[10])++[125,10]))))
def YbP:Bool->List Fn->List UInt8
 |_,[]=>[]
 |first,f::l=>YkX first f++YbP false l
def wExt (l:List ByteArray):List UInt8:=
 if l.length=0 then [] else [36,69,88,84,69,82,78,32]++(JC [44,32] (l.map fun s=>s.data.toList)++[59,10])
def wText (m:Md):List UInt8:=wExt m.externs++YbP (m.externs.length==0) m.funcs
def JP:Md:=⟨[],[⟨⟨#[70]⟩,false,.cons (.cons 5 ⟨#[49]⟩ .nil (.cons 7 ⟨#[50]⟩ .nil .nil)) [] (.cons 8 ⟨#[70]⟩ (.cons 7 ⟨#[50]⟩ .nil .nil) (.cons 1 ⟨#[97]⟩ .nil .nil)) .nil .nil (.cons .nil [] .nil .nil .nil .nil)⟩]⟩
def tk (k:Int)(t:ByteArray):Ti:=⟨k,t,0⟩
def YcP (k:Int)(t:ByteArray):Ti:=
 if k=2 then (if Yh 60 t=true then tk 3 t else tk 2 t) else if k=3 then tk 4 t else tk 5 (YaO k t)
def Ya3 (pre:List UInt8):Ti:=tk 1 ⟨pre.toArray⟩
def Ts.toks:List UInt8->Ts->List Ti
 |pre,.nil=>if pre=[] then [] else [Ya3 pre]
 |
  pre,.cons k t kids rest=>
  if k=1 then Ts.toks (pre++[bu t 0]) rest
  else (if pre=[] then [] else [Ya3 pre])++((if k=4 then tk 6 Yar::(Ts.toks [] kids++[tk 6 Yax])
   else if k=8 then tk 6 JW::tk 3 t::(Ts.toks [] kids++[tk 6 YbM]) else [YcP k t])++Ts.toks [] rest)
def wAr {α:Type}(e:List α):List α->Bool->List (List α)->List (List α)
 |last,_,[]=>[last++e]
 |last,true,x::r=>wAr e (last++x) false r
 |last,false,x::r=>last::wAr e x false r
theorem Yel {α:Type}(e:List α):∀(ws:List (List α)) (last:List α) (j:Bool),(wAr e last j ws).flatten=last++(ws.flatten++e)
 |[],last,j=>by cases j<;>simp[wAr]
 |x::r,last,true=>by rw[wAr,Yel e r]; simp
 |x::r,last,false=>by rw[wAr,List.flatten_cons,Yel e r]; simp
theorem YgK {α:Type}(f:α->List UInt8)(e:List α):∀(ws:List (List α)) (last:List α) (j:Bool),(wAr e last j ws).map (fun w=>w.flatMap f)=YJ (e.flatMap f) (last.flatMap f) j (ws.map fun w=>w.flatMap f)
 |[],last,j=>by cases j<;>simp[wAr,YJ]
 |x::r,last,true=>by rw[wAr,List.map_cons,YJ,YgK f e r,List.flatMap_append]
 |x::r,last,false=>by rw[wAr,List.map_cons,List.map_cons,YJ,YgK f e r]
def Ts.wts:List UInt8->Ts->List (List Ti)
 |pre,.nil=>if pre=[] then [] else [[Ya3 pre]]
 |
  pre,.cons k t kids rest=>
  if k=1 then Ts.wts (pre++[bu t 0]) rest
  else (if pre=[] then [] else [[Ya3 pre]])++((if k=4 then wAr [tk 6 Yax] [tk 6 Yar] true (Ts.wts [] kids)
   else if k=8 then wAr [tk 6 YbM] [tk 6 JW,tk 3 t] false (Ts.wts [] kids) else [[YcP k t]])++Ts.wts [] rest)
theorem Ybk:∀(T:Ts) (pre:List UInt8),(T.wts pre).flatten=T.toks pre
 |.nil,pre=>by unfold Ts.wts Ts.toks; split<;>rfl
 |
  .cons k t kids rest,pre=>by
  unfold Ts.wts Ts.toks;by_cases h1:k=1
  ·rw[if_pos h1,if_pos h1]; exact Ybk rest _
  ·rw[if_neg h1,if_neg h1,List.flatten_append,List.flatten_append,Ybk rest []];congr 1
   ·split<;>rfl
   ·congr 1
    split
    ·rw[Yel,Ybk kids []]; rfl
    ·split
     ·rw[Yel,Ybk kids []]; rfl
     ·rfl
theorem Ypc:∀i:Fin 256,escB 39 (UInt8.ofNat i.val)=escT 39 (UInt8.ofNat i.val):=by decide+kernel
theorem Ylz:∀i:Fin 256,(JB (i.val:Int)=true)->escB 34 (UInt8.ofNat i.val)=escT 34 (UInt8.ofNat i.val):=by decide+kernel
theorem esc39 (b:UInt8):escB 39 b=escT 39 b:=by
 have:=Ypc ⟨b.toNat,b.toNat_lt⟩;simpa using this
theorem esc34 (b:UInt8)(h:JB (b.toNat:Int)=true):escB 34 b=escT 34 b:=by
 have:=Ylz ⟨b.toNat,b.toNat_lt⟩ h;simpa using this
theorem YpL:∀l:List UInt8,l.flatMap (escB 39)=l.flatMap (escT 39)
 |[]=>rfl
 |b::l=>by rw[List.flatMap_cons,List.flatMap_cons,YpL l,esc39]
theorem YpM:∀l:List UInt8,(∀b∈l,JB (b.toNat:Int)=true)->l.flatMap (escB 34)=l.flatMap (escT 34)
 |[],_=>rfl
 |b::l,h=>by rw[List.flatMap_cons,List.flatMap_cons,YpM l (fun x hx=>h x (List.mem_cons_of_mem _ hx)),esc34 b (h b Zs)]
theorem Ykc (pre:List UInt8):outT (Ya3 pre)=39::(pre.flatMap (escT 39)++[39]):=by
 unfold outT Ya3 tk YS;rw[if_pos rfl];unfold YX Yaa;simp[YpL]
theorem Yoj {t:ByteArray}(h:YY t=true):∀b∈t.data.toList,JB (b.toNat:Int)=true:=by
 unfold YY at h;simp only[Bool.and_eq_true,decide_eq_true_eq] at h;have hall:=(Yv t JB _ 0 rfl (Nat.zero_le _)).1 h.2;intro b hb;obtain⟨j,hj,rfl⟩:=List.getElem_of_mem hb;have hj':j<t.size:=by rw[Array.length_toList] at hj; exact hj
 have:=hall j (Nat.zero_le _) hj';rw[YaE] at this;unfold bu at this;rw[dif_pos hj'] at this;rw[Array.getElem_toList];exact this
theorem YoS {k:Int}{t:ByteArray}(hr:Yq k t 0=true)(h1:¬k=1)(h4:¬k=4)(h8:¬k=8):outT (YcP k t)=Jt none none k t true []:=by
 unfold Yq at hr;rw[if_neg h4,if_neg h8,if_neg Zd,if_neg h1] at hr;have e:Jt none none k t true []=(if k=2 then (if Yh 60 t=true then t.data.toList else 34::(t.data.toList.flatMap (escT 34)++[34])) else if k=3 then t.data.toList else (YaO k t).data.toList):=by
  unfold Jt;rw[if_neg h1,if_neg h4,if_neg h8];simp
 rw[e];unfold YcP;by_cases h2:k=2
 ·rw[if_pos h2,if_pos h2];rw[if_pos h2] at hr;by_cases hn:Yh 60 t=true
  ·rw[if_pos hn,if_pos hn]; rfl
  ·rw[if_neg hn,if_neg hn];show(YS 2 t).data.toList=_;unfold YS YX Yaa;rw[if_neg Zd,if_pos rfl,<-YpM _ (Yoj hr)]
 ·rw[if_neg h2,if_neg h2];by_cases h3:k=3
  ·rw[if_pos h3,if_pos h3]; rfl
  ·rw[if_neg h3,if_neg h3]; rfl
def YaB (pre:List UInt8)(T:Ts):List (List UInt8):=
 if pre=[] then T.words else if T.headK=some 1 then (match T.words with | x::r=>(39::(pre.flatMap (escT 39)++x.drop 1))::r | []=>[]) else (39::(pre.flatMap (escT 39)++[39]))::T.words
theorem YoP (pre:List UInt8)(t:ByteArray)(rest:Ts):YaB (pre++[bu t 0]) rest=YaB pre (.cons 1 t .nil rest):=by
 have hw:(Ts.cons 1 t .nil rest).words=Yhy (escT 39 (bu t 0)) rest.headK rest.words:=by rw[Ts.words,if_neg Zd,if_neg Zd,if_pos rfl]
 unfold YaB;rw[if_neg Zs,hw,show(Ts.cons 1 t .nil rest).headK=some 1 from rfl];unfold Yhy;by_cases hp:pre=[]
 ·subst hp;rw[if_pos rfl];split
  ·split<;>simp[*]
  ·simp
 ·rw[if_neg hp,if_pos rfl];by_cases hk:rest.headK=some 1
  ·rw[if_pos hk,if_pos hk];cases rest.words with
   |nil=>rfl
   |cons x r=>simp
  ·rw[if_neg hk,if_neg hk];simp
theorem Yc0 (most:Int):∀(T:Ts) (pre:List UInt8),T.right most=true->(T.wts pre).map catT=YaB pre T
 |
  .nil,pre,_=>by
  unfold Ts.wts YaB;split
  ·rfl
  ·rw[if_neg (by intro q; cases q)];simp[catT,Ykc,Ts.words]
 |
  .cons k t kids rest,pre,h=>by
  unfold Ts.right at h;simp only[Bool.and_eq_true,decide_eq_true_eq] at h;obtain⟨⟨⟨_,hr⟩,hk⟩,hrest⟩:=h;by_cases h1:k=1
  ·subst h1;have hkn:kids= .nil:=by
    unfold Yq at hr;rw[if_neg Zd,if_neg Zd] at hr;by_cases hz:kids.len=0
    ·exact(Ts.len_zero _).1 hz
    ·rw[if_pos hz] at hr; cases hr
   subst hkn;rw[Ts.wts,if_pos rfl,Yc0 most rest _ hrest];exact YoP pre t rest
  ·have ih:=Yc0 most rest [] hrest;have ihk:=Yc0 most kids [] hk;rw[Ts.wts,if_neg h1,List.map_append,List.map_append,ih];have e0:YaB [] rest=rest.words:=rfl;have e1:YaB [] kids=kids.words:=rfl;rw[e1] at ihk;rw[e0];have hT:YaB pre (.cons k t kids rest)=(if pre=[] then [] else [39::(pre.flatMap (escT 39)++[39])])++(Ts.cons k t kids rest).words:=by
    unfold YaB;split
    ·rfl
    ·rw[if_neg (by intro q; exact h1 (Option.some.inj q))]; rfl
   rw[hT,Ts.words];congr 1
   ·split
    ·rfl
    ·simp[catT,Ykc]
   ·by_cases h4:k=4
    ·rw[if_pos h4,if_pos h4];congr 1
     have:=YgK outT [tk 6 Yax] (kids.wts []) [tk 6 Yar] true;rw[show(fun w:List Ti=>w.flatMap outT)=catT from rfl,ihk] at this;exact this
    ·rw[if_neg h4,if_neg h4];by_cases h8:k=8
     ·rw[if_pos h8,if_pos h8];congr 1
      have:=YgK outT [tk 6 YbM] (kids.wts []) [tk 6 JW,tk 3 t] false;rw[show(fun w:List Ti=>w.flatMap outT)=catT from rfl,ihk] at this;rw[this];congr 1
      simp[outT,tk,YS,JW]
     ·rw[if_neg h8,if_neg h8,if_neg h1];have hz:kids.len=0:=by
       unfold Yq at hr;rw[if_neg h4,if_neg h8] at hr;by_cases hz:kids.len=0
       ·exact hz
       ·rw[if_pos hz] at hr; cases hr
      rw[hz] at hr;simp[catT,YoS hr h1 h4 h8]
theorem YkQ:∀(a b:List Ti),(∀x∈a,gapK x.kind=false)->adjT b->adjT (a++b)
 |[],b,_,h=>h
 |[x],[],_,_=>trivial
 |[x],y::l,ha,h=>⟨by rw[ha x Zs]; rfl,h⟩
 |x::y::l,b,ha,h=>⟨by rw[ha x Zs]; rfl,YkQ (y::l) b (fun z hz=>ha z (List.mem_cons_of_mem _ hz)) h⟩
theorem Ydn:∀(a b:List Ti),(∀x∈b,gapK x.kind=false)->adjT a->adjT (a++b)
 |[],[],_,_=>trivial
 |[],[y],_,_=>trivial
 |[],y::z::l,hb,_=>⟨by rw[hb y Zs]; rfl,Ydn [] (z::l) (fun x hx=>hb x (List.mem_cons_of_mem _ hx)) trivial⟩
 |[x],[],_,_=>trivial
 |[x],y::l,hb,_=>⟨by rw[hb y Zs,Bool.and_false],Ydn [] (y::l) hb trivial⟩
 |x::y::l,b,hb,h=>⟨h.1,Ydn (y::l) b hb h.2⟩
structure Yob (w:List Ti):Prop where
 gap:∀x∈w,gapK x.kind=false
 ok:∀x∈w,chkB x.kind x.text=0
theorem WOk.signs {w e:List Ti}(h:WOk w)(he:Yob e):WOk (w++e):=
 ⟨by simp[h.ne],Ydn w e he.gap h.adj,fun x hx=>(List.mem_append.1 hx).elim (h.ok x) (he.ok x)⟩
theorem WOk.behind {w e:List Ti}(h:WOk w)(he:Yob e):WOk (e++w):=
 ⟨by simp[h.ne],YkQ e w he.gap h.adj,fun x hx=>(List.mem_append.1 hx).elim (he.ok x) (h.ok x)⟩
theorem YjM {e:List Ti}(he:Yob e):∀(ws:List (List Ti)) (last:List Ti) (j:Bool),(∀w∈ws,WOk w)->WOk last->(j=true->Yob last)->∀w∈wAr e last j ws,WOk w
 |
  [],last,j,_,hl,_,w,hw=>by
  have:w=last++e:=by cases j<;>simpa[wAr] using hw
  rw[this]; exact hl.signs he
 |
  x::r,last,true,hs,hl,hj,w,hw=>by
  rw[wAr] at hw;exact YjM he r _ false (fun y hy=>hs y (List.mem_cons_of_mem _ hy)) ((hs x Zs).behind (hj rfl)) (fun q=>by cases q) w hw
 |
  x::r,last,false,hs,hl,_,w,hw=>by
  rw[wAr] at hw;rcases List.mem_cons.1 hw with rfl | hw
  ·exact hl
  ·exact YjM he r _ false (fun y hy=>hs y (List.mem_cons_of_mem _ hy)) (hs x Zs) (fun q=>by cases q) w hw
theorem Yd9 {x:Ti}(h:chkB x.kind x.text=0):WOk [x]:=⟨by simp,trivial,fun y hy=>by rw[List.mem_singleton.1 hy]; exact h⟩
theorem Ygs {k:Int}{t:ByteArray}(h:okB k t=true):chkB k t=0:=by unfold chkB; rw[if_pos h]
theorem Yb0 {s:ByteArray}(h:okB 6 s=true):Yob [tk 6 s]:=⟨fun x hx=>by rw[List.mem_singleton.1 hx]; rfl,fun x hx=>by rw[List.mem_singleton.1 hx]; exact Ygs h⟩
theorem JM {s:ByteArray}(h:okB 6 s=true):WOk [tk 6 s]:=Yd9 (Ygs h)
theorem YmS:okB 6 Yar=true:=by decide+kernel
theorem YoT:okB 6 Yax=true:=by decide+kernel
theorem Yqa:okB 6 JW=true:=by decide+kernel
theorem Yp9:okB 6 YbM=true:=by decide+kernel
theorem YpI {t:ByteArray}(h:Yh 40 t=true):YL t=true:=by
 unfold Yh at h;unfold YL;simp only[Bool.and_eq_true,decide_eq_true_eq,beq_iff_eq] at h⊢;exact⟨⟨⟨h.1.1.1,by omega⟩,h.1.2⟩,h.2⟩
theorem YmT (pre:List UInt8):chkB (Ya3 pre).kind (Ya3 pre).text=0:=rfl
theorem Yke {k:Int}{t:ByteArray}(hk:k=5\/k=6\/k=7)(h:YbI t=true):YF (YaO k t)=true/\JS (bt (YaO k t) 0)=k/\(YaO k t).extract 2 (YaO k t).size=t:=by
 unfold YbI at h;simp only[Bool.and_eq_true,decide_eq_true_eq] at h;obtain⟨⟨h0,h1⟩,h2⟩:=h;have hall:=(Yv t (inner Js) _ 0 rfl (Nat.zero_le _)).1 h2;obtain⟨a,ha,hst,hvk⟩:∃a:UInt8,YaO k t=⟨#[a,46]⟩++t/\steB (a.toNat:Int)=true/\JS (a.toNat:Int)=k:=by
  rcases hk with rfl | rfl | rfl
  ·exact⟨115,rfl,by decide,by decide⟩
  ·exact⟨116,rfl,by decide,by decide⟩
  ·exact⟨101,rfl,by decide,by decide⟩
 rw[ha];have hz:((⟨#[a,46]⟩:ByteArray)++t).size=t.size+2:=by
  rw[ByteArray.size_append];show 2+_=_;omega
 have hd:((⟨#[a,46]⟩:ByteArray)++t).data.toList=a::46::t.data.toList:=by
  rw[ByteArray.data_append,Array.toList_append]; rfl
 have hb:∀j,bt ((⟨#[a,46]⟩:ByteArray)++t) (j+2)=bt t j:=by
  intro j;by_cases hj:j<t.size
  ·have hH:Has ((⟨#[a,46]⟩:ByteArray)++t) 0 (a::46::t.data.toList):=by unfold Has; rw[List.drop_zero,hd]; exact List.prefix_refl _
   have h2:=(YN.1 (YN.1 hH).2.2).2.2;have:=Yhi h2 j hj;rw[<-this];congr 1; omega
  ·rw[Jp Zo,Jp Zo]
 have hb0:bt ((⟨#[a,46]⟩:ByteArray)++t) 0=a.toNat/\bt ((⟨#[a,46]⟩:ByteArray)++t) 1=46:=by
  have hH:Has ((⟨#[a,46]⟩:ByteArray)++t) 0 (a::46::t.data.toList):=by unfold Has; rw[List.drop_zero,hd]; exact List.prefix_refl _
  have e1:=(YN.1 hH).2.1;have e2:=(YN.1 (YN.1 hH).2.2).2.1;exact⟨by rw[YaE,e1],by rw[YaE,e2]; rfl⟩
 refine⟨?_,by rw[hb0.1]; exact hvk,?_⟩
 ·unfold YF;simp only[Bool.and_eq_true,decide_eq_true_eq,beq_iff_eq];refine⟨⟨⟨⟨by omega,by omega⟩,by rw[hb0.1]; exact hst⟩,hb0.2⟩,(Yv _ (inner Js) _ 2 rfl Zo).2 fun j hj hj2=>?_⟩;obtain⟨m,rfl⟩:∃m,j=m+2:=⟨j - 2,by omega⟩;rw[hb];exact hall m (Nat.zero_le _) Zo
 ·apply ByteArray.ext;rw[ByteArray.data_extract,ByteArray.data_append];apply Array.ext';simp[hz];exact List.take_of_length_le (by rw[Array.length_toList]; exact Nat.le_refl _)
theorem Yqj {k:Int}{t:ByteArray}(hr:Yq k t 0=true)(h1:¬k=1)(h4:¬k=4)(h8:¬k=8):chkB (YcP k t).kind (YcP k t).text=0:=by
 unfold Yq at hr;rw[if_neg h4,if_neg h8,if_neg Zd,if_neg h1] at hr;apply Ygs;unfold YcP;by_cases h2:k=2
 ·rw[if_pos h2] at hr⊢;by_cases hn:Yh 60 t=true
  ·rw[if_pos hn]; rw[Yls] at hn; exact hn
  ·rw[if_neg hn]; exact hr
 ·rw[if_neg h2] at hr⊢;by_cases h3:k=3
  ·rw[if_pos h3] at hr⊢; exact hr
  ·rw[if_neg h3] at hr⊢;by_cases hv:k=5\/k=6\/k=7
   ·rw[if_pos hv] at hr; exact(Yke hv hr).1
   ·rw[if_neg hv] at hr; cases hr
theorem Ye9 {k:Int}{t:ByteArray}{n:Nat}(h:Yq k t n=true)(h4:¬k=4)(h8:¬k=8):n=0:=by
 unfold Yq at h;rw[if_neg h4,if_neg h8] at h;by_cases hz:n=0
 ·exact hz
 ·rw[if_pos hz] at h; cases h
theorem Yga {most k:Int}{t:ByteArray}{kids rest:Ts}(h:(Ts.cons k t kids rest).right most=true):k<=most/\Yq k t kids.len=true/\kids.right most=true/\rest.right most=true:=by
 unfold Ts.right at h;simp only[Bool.and_eq_true,decide_eq_true_eq] at h;exact⟨h.1.1.1,h.1.1.2,h.1.2,h.2⟩
theorem Yc1 (most:Int):∀(T:Ts) (pre:List UInt8),T.right most=true->∀w∈T.wts pre,WOk w
 |
  .nil,pre,_,w,hw=>by
  unfold Ts.wts at hw;split at hw
  ·simp at hw
  ·rw[List.mem_singleton.1 hw]; exact Yd9 (YmT pre)
 |
  .cons k t kids rest,pre,h,w,hw=>by
  obtain⟨_,hr,hk,hrest⟩:=Yga h;unfold Ts.wts at hw;by_cases h1:k=1
  ·rw[if_pos h1] at hw; exact Yc1 most rest _ hrest w hw
  ·rw[if_neg h1,List.mem_append,List.mem_append] at hw;rcases hw with hw | hw | hw
   ·split at hw
    ·simp at hw
    ·rw[List.mem_singleton.1 hw]; exact Yd9 (YmT pre)
   ·by_cases h4:k=4
    ·rw[if_pos h4] at hw;exact YjM (Yb0 YoT) _ _ _ (Yc1 most kids [] hk) (JM YmS) (fun _=>Yb0 YmS) w hw
    ·rw[if_neg h4] at hw;by_cases h8:k=8
     ·rw[if_pos h8] at hw;have hn:okB 3 t=true:=by
       unfold Yq at hr;rw[if_neg h4,if_pos h8] at hr;exact YpI hr
      exact YjM (Yb0 Yp9) _ _ _ (Yc1 most kids [] hk) ((Yd9 (x:=tk 3 t) (Ygs hn)).behind (Yb0 Yqa)) (fun q=>by cases q) w hw
     ·rw[if_neg h8] at hw;rw[List.mem_singleton.1 hw];rw[Ye9 hr h4 h8] at hr;exact Yd9 (Yqj hr h1 h4 h8)
   ·exact Yc1 most rest [] hrest w hw
def YV (L:List Tk):Nat->List Ti->Prop
 |_,[]=>True
 |i,x::l=>(∃a,L[i]? =some ⟨x.kind,x.text,a⟩)/\YV L (i+1) l
theorem YV.app {L:List Tk}:∀{a:List Ti} {i:Nat} {b:List Ti},YV L i (a++b)↔YV L i a/\YV L (i+a.length) b
 |[],i,b=>by simp[YV]
 |
  x::a,i,b=>by
  have e:i+(x::a).length=i+1+a.length:=by simp; omega
  rw[e];show(_/\YV L (i+1) (a++b))↔(_/\YV L (i+1) a)/\_;rw[YV.app,and_assoc]
theorem YV.lt {L:List Tk}:∀{l:List Ti} {i:Nat},YV L i l->i<=L.length->i+l.length<=L.length
 |[],i,_,hi=>hi
 |
  x::l,i,h,_=>by
  obtain⟨⟨a,ha⟩,h2⟩:=h;have:=(List.getElem?_eq_some_iff.1 ha).1;have:=YV.lt h2 this;simp; omega
theorem YjR {L:List Tk}:∀{l:List Ti} {i:Nat},(L.drop i).map (fun x=>(x.kind,x.text))=l.map (fun x=>(x.kind,x.text))->YV L i l
 |[],_,_=>trivial
 |
  x::l,i,h=>by
  cases hd:L.drop i with
  |nil=>rw[hd] at h; cases h
  |
   cons y r=>
   rw[hd,List.map_cons,List.map_cons,List.cons.injEq] at h;have hy:L[i]? =some y:=by
    have:=congrArg (·[0]?) hd;simpa using this
   obtain⟨h1,h2⟩:=h;simp only[Prod.mk.injEq] at h1;obtain⟨k,t,a⟩:=y;refine⟨⟨a,by rw[hy,<-h1.1,<-h1.2]⟩,YjR ?_⟩;have e:L.drop (i+1)=r:=by rw[<-List.drop_drop,hd]; rfl
   rw[e]; exact h2
def Yhq (L:List Tk)(j:Nat):Prop:=match L[j]? with
 |none=>True
 |some t=>(t.kind=6\/t.kind=7)/\¬t.text=Yar/\¬t.text=JW
theorem Yk7 {L:List Tk}{en:Nat}{pat:Bool}{n deep i:Nat}{acc:Ts}(h:Yhq L i):Yc L en pat (n+1) deep i acc= .ok acc i:=by
 unfold Yhq at h;unfold Yc;cases q:L[i]? with
 |none=>rfl
 |
  some t=>
  rw[q] at h;obtain⟨h1,h2,h3⟩:=h;dsimp only;rw[if_neg Zo,if_neg Zo,if_neg Zo,if_neg Zo,if_neg (fun z=>h2 z.2),if_neg (fun z=>h3 z.2)]
def Yam:List UInt8->Ts
 |[]=>.nil
 |b::r=>.cons 1 ⟨#[b]⟩ .nil (Yam r)
theorem Ygv:∀a b:List UInt8,Yam (a++b)=(Yam a).app (Yam b)
 |[],_=>rfl
 |x::a,b=>by show Ts.cons _ _ _ (Yam (a++b))=_; rw[Ygv a b]; rfl
theorem YcH (s:ByteArray):∀(n i:Nat) (l:List UInt8),l.length=n->Has s i l->Yt s n i=Yam l
 |0,i,l,hl,_=>by rw[List.length_eq_zero_iff.1 hl]; rfl
 |n+1,i,[],hl,_=>by cases hl
 |
  n+1,i,b::l,hl,h=>by
  obtain⟨h1,h2,h3⟩:=YN.1 h;unfold Yt Yam;rw[YcH s n (i+1) l (by simpa using hl) h3];congr 1
  apply ByteArray.ext;apply Array.ext';rw[YnE h1,h2]
theorem YjC (l:List UInt8):YbK ⟨l.toArray⟩=Yam l:=
 YcH _ _ _ _ (by simp[ByteArray.size]) (by unfold Has; simp)
theorem Ybw {L:List Tk}{i:Nat}{k:Int}{t:ByteArray}(h:∃a,L[i]? =some ⟨k,t,a⟩):isN L i k t=true:=by
 obtain⟨a,h⟩:=h;unfold isN; rw[h]; simp
theorem Yfd {L:List Tk}{i:Nat}{k k':Int}{t t':ByteArray}(h:∃a,L[i]? =some ⟨k',t',a⟩)(hne:¬(k'=k/\t'=t)):isN L i k t=false:=by
 obtain⟨a,h⟩:=h;unfold isN; rw[h];cases q:(k'==k&&decide (t'=t)) with
 |false=>exact q
 |true=>simp only[Bool.and_eq_true,beq_iff_eq,decide_eq_true_eq] at q; exact absurd q hne
theorem YaP {L:List Tk}{en i:Nat}{s:ByteArray}(h:∃a,L[i]? =some ⟨6,s,a⟩):YG L en i s= .ok () (i+1):=by
 unfold YG; rw[if_pos (Ybw h)]
theorem Yde {L:List Tk}{en i:Nat}{s:ByteArray}(h:∃a,L[i]? =some ⟨3,s,a⟩)(hs:s.size<=40):Jn L en i= .ok s (i+1):=by
 obtain⟨a,h⟩:=h;unfold Jn; rw[h]; dsimp only; rw[if_pos ⟨rfl,hs⟩]
theorem Yb7 {t:ByteArray}(h:Yh 40 t=true):t.size<=40:=by
 unfold Yh at h;simp only[Bool.and_eq_true,decide_eq_true_eq,beq_iff_eq] at h;omega
theorem YbX {L:List Tk}{i:Nat}{k:Int}{t:ByteArray}(h:∃a,L[i]? =some ⟨k,t,a⟩)(hk:k=6\/k=7)(h1:¬t=Yar)(h2:¬t=JW):Yhq L i:=by
 obtain⟨a,h⟩:=h;unfold Yhq; rw[h]; exact⟨hk,h1,h2⟩
theorem one_byte {t:ByteArray}(h:t.size=1):t=⟨#[bu t 0]⟩:=by
 have:(t.extract 0 1).data.toList=[bu t 0]:=YnE Zo;have e:t.extract 0 1=t:=by rw[<-h]; exact ByteArray.extract_zero_size
 rw[e] at this;apply ByteArray.ext;apply Array.ext';rw[this]
theorem Ymn {L:List Tk}{en:Nat}{pat:Bool}{n deep i:Nat}{acc:Ts}{t:ByteArray}(h:∃a,L[i]? =some ⟨1,t,a⟩):Yc L en pat (n+1) deep i acc=Yc L en pat n deep (i+1) (acc.app (YbK t)):=by
 obtain⟨a,h⟩:=h;rw[Yc,h]; rfl
theorem Ymm {L:List Tk}{en:Nat}{pat:Bool}{n deep i:Nat}{acc:Ts}{k:Int}{t:ByteArray}(hr:Yq k t 0=true)(h1:¬k=1)(h4:¬k=4)(h8:¬k=8)(h:∃a,L[i]? =some ⟨(YcP k t).kind,(YcP k t).text,a⟩):
 Yc L en pat (n+1) deep i acc=Yc L en pat n deep (i+1) (acc.app (.cons k t .nil .nil)):=by
 obtain⟨a,h⟩:=h;rw[Yc,h];dsimp only;unfold Yq at hr;rw[if_neg h4,if_neg h8,if_neg Zd,if_neg h1] at hr;unfold YcP;by_cases h2:k=2
 ·subst h2;rw[if_pos rfl];by_cases hn:Yh 60 t=true
  ·rw[if_pos hn]; rfl
  ·rw[if_neg hn]; rfl
 ·rw[if_neg h2] at hr⊢;by_cases h3:k=3
  ·subst h3; rfl
  ·rw[if_neg h3] at hr⊢;have hv:k=5\/k=6\/k=7:=by
    by_cases hv:k=5\/k=6\/k=7
    ·exact hv
    ·rw[if_neg hv] at hr; cases hr
   rw[if_pos hv] at hr;obtain⟨g1,g2,g3⟩:=Yke hv hr;have e:varT (YaO k t) .nil= .cons k t .nil .nil:=by unfold varT; rw[if_pos g1,g2,g3]
   show Yc L en pat n deep (i+1) (acc.app (varT (YaO k t) .nil))=_;rw[e]
theorem Ygp {L:List Tk}{en:Nat}{pat:Bool}{n deep i:Nat}{acc:Ts}{pre:List UInt8}(h:YV L i (if pre=[] then [] else [Ya3 pre]))(hn:L.length<n+i):
 ∃n',Yc L en pat n deep i acc=Yc L en pat n' deep (i+(if pre=[] then [] else [Ya3 pre]).length) (acc.app (Yam pre))/\L.length<n'+(i+(if pre=[] then [] else [Ya3 pre]).length):=by
 by_cases hp:pre=[]
 ·subst hp;refine⟨n,?_,by simpa using hn⟩;rw[if_pos rfl];show _=Yc L en pat n deep i (acc.app .nil);rw[Ts.app_nil]
 ·rw[if_neg hp] at h⊢;have hlt:=(List.getElem?_eq_some_iff.1 h.1.choose_spec).1;obtain⟨n,rfl⟩:∃m,n=m+1:=⟨n - 1,by omega⟩;refine⟨n,?_,by simp; omega⟩;rw[Ymn h.1];show Yc L en pat n deep (i+1) (acc.app (YbK ⟨pre.toArray⟩))=_;rw[YjC]; rfl
theorem YnM {k:Int}{t:ByteArray}{kids rest:Ts}{deep:Nat}(h:deep+(Ts.cons k t kids rest).deep<=100):deep+rest.deep<=100/\(k=4\/k=8->deep+1+kids.deep<=100):=by
 unfold Ts.deep at h;refine⟨by omega,fun hk=>?_⟩;rw[if_pos Zo] at h;omega
theorem Ybb (L:List Tk)(en:Nat)(pat:Bool):∀(T:Ts) (pre:List UInt8) (n deep i:Nat) (acc:Ts),T.right (Ydf pat)=true->deep+T.deep<=100->i<=L.length->YV L i (T.toks pre)->L.length<n+i->Yhq L (i+(T.toks pre).length)->
 Yc L en pat n deep i acc= .ok (acc.app ((Yam pre).app T)) (i+(T.toks pre).length)
 |
  .nil,pre,n,deep,i,acc,_,_,hi,ht,hn,hs=>by
  have e:Ts.toks pre .nil=if pre=[] then [] else [Ya3 pre]:=rfl
  rw[e] at ht hs⊢;have hle:=ht.lt hi;obtain⟨n',q,hn'⟩:=Ygp (en:=en) (pat:=pat) (deep:=deep) (acc:=acc) ht hn;obtain⟨m,rfl⟩:∃m,n'=m+1:=⟨n' - 1,by omega⟩;rw[q,Yk7 hs,Ts.app_nil]
 |
  .cons k t kids rest,pre,n,deep,i,acc,hr,hd,hi,ht,hn,hs=>by
  obtain⟨hm,hr1,hrk,hrr⟩:=Yga hr;obtain⟨hd1,hd2⟩:=YnM hd;by_cases h1:k=1
  ·subst h1;have hz:kids= .nil:=(Ts.len_zero _).1 (Ye9 hr1 Zd Zd);subst hz;have ht1:t.size=1:=by
    unfold Yq at hr1;simpa[Ts.len] using hr1
   have e:Ts.toks pre (.cons 1 t .nil rest)=Ts.toks (pre++[bu t 0]) rest:=by rw[Ts.toks,if_pos rfl]
   rw[e] at ht hs⊢;rw[Ybb L en pat rest _ n deep i acc hrr hd1 hi ht hn hs,Ygv,Ts.app_assoc (Yam pre)];show Rd.ok (acc.app ((Yam pre).app (.cons 1 ⟨#[bu t 0]⟩ .nil rest))) _=_;rw[<-one_byte ht1]
  ·have e:Ts.toks pre (.cons k t kids rest)=(if pre=[] then [] else [Ya3 pre])++((if k=4 then tk 6 Yar::(Ts.toks [] kids++[tk 6 Yax])
    else if k=8 then tk 6 JW::tk 3 t::(Ts.toks [] kids++[tk 6 YbM]) else [YcP k t])++Ts.toks [] rest):=by rw[Ts.toks,if_neg h1]
   rw[e] at ht hs⊢;obtain⟨t0,ht⟩:=YV.app.1 ht;have hle0:=t0.lt hi;obtain⟨n',q,hn'⟩:=Ygp (en:=en) (pat:=pat) (deep:=deep) (acc:=acc) t0 hn;rw[q,List.length_append,<-Nat.add_assoc];rw[List.length_append,<-Nat.add_assoc] at hs;generalize i+(if pre=[] then [] else [Ya3 pre]).length=j at ht hle0 hn' hs⊢;clear q t0 hn hi;obtain⟨t1,t2⟩:=YV.app.1 ht;rw[List.length_append,<-Nat.add_assoc] at hs⊢;have hle1:=t1.lt hle0;have key:∃m,Yc L en pat n' deep j (acc.app (Yam pre))=Yc L en pat m deep (j+(if k=4 then tk 6 Yar::(Ts.toks [] kids++[tk 6 Yax])
    else if k=8 then tk 6 JW::tk 3 t::(Ts.toks [] kids++[tk 6 YbM]) else [YcP k t]).length) ((acc.app (Yam pre)).app (.cons k t kids .nil))/\L.length<m+(j+(if k=4 then tk 6 Yar::(Ts.toks [] kids++[tk 6 Yax])
    else if k=8 then tk 6 JW::tk 3 t::(Ts.toks [] kids++[tk 6 YbM]) else [YcP k t]).length):=by
    by_cases h4:k=4
    ·rw[if_pos h4] at t1 hle1⊢;obtain⟨⟨a,ha⟩,u⟩:=t1;obtain⟨u1,u2⟩:=YV.app.1 u;have hlt:=(List.getElem?_eq_some_iff.1 ha).1;obtain⟨m,rfl⟩:∃m,n'=m+1:=⟨n' - 1,by omega⟩;have hlen:(tk 6 Yar::(Ts.toks [] kids++[tk 6 Yax])).length=(Ts.toks [] kids).length+2:=Zs;rw[hlen] at hle1⊢;refine⟨m,?_,by omega⟩;have ih:=Ybb L en pat kids [] m (deep+1) (j+1) .nil hrk (hd2 (.inl h4)) Zo u1 Zo (YbX u2.1 (.inl rfl) Zd Zd);have ht0:t=⟨#[]⟩:=by
      unfold Yq at hr1;rw[if_pos h4] at hr1;have hz:t.size=0:=by simpa using hr1
      apply ByteArray.ext;exact Array.size_eq_zero_iff.1 hz
     rw[Yc,ha];show(if 100<=deep then _ else _)=_;rw[if_neg (by have:=hd2 (.inl h4); omega),ih];show(YG L en (j+1+(Ts.toks [] kids).length) Yax).bind _=_;rw[YaP (s:=Yax) u2.1];show Yc L en pat m deep (j+1+(Ts.toks [] kids).length+1) ((acc.app (Yam pre)).app (.cons 4 ⟨#[]⟩ kids .nil))=_;rw[h4,ht0];congr 1
     omega
    ·rw[if_neg h4] at t1 hle1⊢;by_cases h8:k=8
     ·rw[if_pos h8] at t1 hle1⊢;obtain⟨⟨a,ha⟩,u3,u⟩:=t1;obtain⟨u1,u2⟩:=YV.app.1 u;have hlt:=(List.getElem?_eq_some_iff.1 ha).1;have hpat:pat=false:=by
       cases pat with
       |false=>rfl
       |true=>rw[h8] at hm; exact absurd hm Zd
      subst hpat;obtain⟨m,rfl⟩:∃m,n'=m+1:=⟨n' - 1,by omega⟩;have hlen:(tk 6 JW::tk 3 t::(Ts.toks [] kids++[tk 6 YbM])).length=(Ts.toks [] kids).length+3:=Zs;rw[hlen] at hle1⊢;refine⟨m,?_,by omega⟩;have hnm:Yh 40 t=true:=by
       unfold Yq at hr1;rw[if_neg h4,if_pos h8] at hr1;exact hr1
      have ih:=Ybb L en false kids [] m (deep+1) (j+1+1) .nil hrk (hd2 (.inr h8)) Zo u1 Zo (YbX u2.1 (.inl rfl) Zd Zd);rw[Yc,ha];show(if 100<=deep then Rd.bad a 54 else (Jn L en (j+1)).bind fun nm q=>(Yc L en false m (deep+1) q .nil).bind fun ks q2=>(YG L en q2 YbM).bind fun _ q3=>Yc L en false m deep q3 ((acc.app (Yam pre)).app (.cons 8 nm ks .nil)))=_;rw[if_neg (by have:=hd2 (.inr h8); omega),Yde (s:=t) u3 (Yb7 hnm)];show(Yc L en false m (deep+1) (j+1+1) .nil).bind _=_;rw[ih];show(YG L en (j+1+1+(Ts.toks [] kids).length) YbM).bind _=_;rw[YaP (s:=YbM) u2.1];show Yc L en false m deep (j+1+1+(Ts.toks [] kids).length+1) ((acc.app (Yam pre)).app (.cons 8 t kids .nil))=_;rw[h8];congr 1
      omega
     ·rw[if_neg h8] at t1 hle1⊢;have hlt:=(List.getElem?_eq_some_iff.1 t1.1.choose_spec).1;obtain⟨m,rfl⟩:∃m,n'=m+1:=⟨n' - 1,by omega⟩;have hz:kids= .nil:=(Ts.len_zero _).1 (Ye9 hr1 h4 h8);subst hz;exact⟨m,Ymm hr1 h1 h4 h8 t1.1,by simp; omega⟩
   obtain⟨m,q,hm'⟩:=key;rw[q];generalize j+(if k=4 then tk 6 Yar::(Ts.toks [] kids++[tk 6 Yax])
    else if k=8 then tk 6 JW::tk 3 t::(Ts.toks [] kids++[tk 6 YbM]) else [YcP k t]).length=j2 at t2 hle1 hm' hs⊢
   rw[Ybb L en pat rest [] m deep j2 _ hrr hd1 hle1 t2 hm' hs,Ts.app_assoc,Ts.app_assoc];rfl
theorem Ycd {L:List Tk}{en:Nat}{pat:Bool}{T:Ts}{i:Nat}(h:Yy (Ydf pat) T=0)(hi:i<=L.length)(ht:YV L i (T.toks []))(hs:Yhq L (i+(T.toks []).length)):Jo L en pat i= .ok T (i+(T.toks []).length):=by
 obtain⟨h1,h2,h3⟩:=Yab.1 h;unfold Jo;rw[Ybb L en pat T [] (L.length+1) 0 i .nil h3 Zo hi ht Zo hs];show(if 4000<T.nodes then _ else _)=_;rw[if_neg Zo];rfl
def bA (l:List UInt8):ByteArray:=⟨l.toArray⟩
theorem YiP (a b:List UInt8):bA (a++b)=bA a++bA b:=ByteArray.ext (by simp[bA,ByteArray.data_append])
theorem YbE (a:List UInt8):(bA a).size=a.length:=by simp[bA,ByteArray.size]
theorem Yn1 (s:ByteArray):bA s.data.toList=s:=ByteArray.ext (by simp[bA])
theorem YqD (a:UInt8)(b:List UInt8):bA (a::b)=⟨#[a]⟩++bA b:=YiP [a] b
structure ArS where
 out:List ByteArray
 last:ByteArray
 joined:Bool
def ArS.step (s:ArS)(x:ByteArray):ArS:=if s.joined=true then ⟨s.out,s.last++x,false⟩ else ⟨s.out++[s.last],x,false⟩
def YH (o:ByteArray)(d:Bool)(q:List ByteArray):ArS:=q.foldl ArS.step ⟨[],o,d⟩
theorem Yn9 (o:ByteArray)(d:Bool):YH o d []=⟨[],o,d⟩:=rfl
theorem YgF (o:ByteArray)(d:Bool)(q:List ByteArray)(x:ByteArray):YH o d (q++[x])=(YH o d q).step x:=by
 simp[YH,List.foldl_append]
def JR (e o:ByteArray)(d:Bool)(ws:List ByteArray):List ByteArray:=(YH o d ws).out++[(YH o d ws).last++e]
theorem Yky:∀(ws:List ByteArray) (s:ArS),∃z,(ws.foldl ArS.step s).out=s.out++z
 |[],s=>⟨[],by simp⟩
 |
  x::ws,s=>by
  obtain⟨z,hz⟩:=Yky ws (s.step x);by_cases h:s.joined=true
  ·exact⟨z,by rw[List.foldl_cons,hz]; unfold ArS.step; rw[if_pos h]⟩
  ·exact⟨s.last::z,by rw[List.foldl_cons,hz]; unfold ArS.step; rw[if_neg h]; simp⟩
theorem Yn8 (e o:ByteArray)(d:Bool)(q r:List ByteArray):∃z,JR e o d (q++r)=(YH o d q).out++z:=by
 obtain⟨z,hz⟩:=Yky r (YH o d q);refine⟨z++[(YH o d (q++r)).last++e],?_⟩;unfold JR;rw[show(YH o d (q++r)).out=(YH o d q).out++z by unfold YH at hz⊢; rw[List.foldl_append]; exact hz];simp
theorem YkO {o:ByteArray}{d:Bool}{q:List ByteArray}{x:ByteArray}(h:(YH o d q).joined=false):(YH o d (q++[x])).out=(YH o d q).out++[(YH o d q).last]/\(YH o d (q++[x])).last=x/\(YH o d (q++[x])).joined=false:=by
 rw[YgF]; unfold ArS.step; rw[if_neg (by rw[h]; simp)]; exact⟨rfl,rfl,rfl⟩
theorem YlH {o:ByteArray}{d:Bool}{q:List ByteArray}{x:ByteArray}(h:(YH o d q).joined=true):(YH o d (q++[x])).out=(YH o d q).out/\(YH o d (q++[x])).last=(YH o d q).last++x/\(YH o d (q++[x])).joined=false:=by
 rw[YgF]; unfold ArS.step; rw[if_pos h]; exact⟨rfl,rfl,rfl⟩
theorem YcX:∀(e:List UInt8) (ws:List (List UInt8)) (o:List UInt8) (d:Bool) (z:List ByteArray),
 z++(YJ e o d ws).map bA=((ws.map bA).foldl ArS.step ⟨z,bA o,d⟩).out++[((ws.map bA).foldl ArS.step ⟨z,bA o,d⟩).last++bA e]
 |e,[],o,d,z=>by cases d<;>simp[YJ,YiP]
 |
  e,x::r,o,true,z=>by
  rw[YJ,YcX e r (o++x) false z];simp only[List.map_cons,List.foldl_cons,ArS.step,if_pos,YiP]
 |
  e,x::r,o,false,z=>by
  have:=YcX e r x false (z++[bA o]);rw[YJ,List.map_cons,show z++bA o::(YJ e x false r).map bA=(z++[bA o])++(YJ e x false r).map bA by simp,this];simp[List.foldl_cons,ArS.step]
theorem YgC (e o:List UInt8)(d:Bool)(ws:List (List UInt8)):(YJ e o d ws).map bA=JR (bA e) (bA o) d (ws.map bA):=by
 have:=YcX e ws o d [];rw[List.nil_append] at this;exact this
theorem fold_size {K:Nat}:∀(q:List ByteArray) (s:ArS),(∀x∈q,x.size<=K)->s.last.size<=2*K->(s.joined=true->s.last.size<=K)->(q.foldl ArS.step s).last.size<=2*K/\((q.foldl ArS.step s).joined=true->(q.foldl ArS.step s).last.size<=K)
 |[],s,_,h1,h2=>⟨h1,h2⟩
 |
  x::q,s,h,h1,h2=>by
  have hx:=h x Zs;rw[List.foldl_cons];refine fold_size q (s.step x) (fun y hy=>h y (by simp[hy])) ?_ ?_
  ·unfold ArS.step;split
   ·rename_i hj
    have:=h2 hj;show(s.last++x).size<=_;rw[ByteArray.size_append]; omega
   ·show x.size<=_;omega
  ·unfold ArS.step;split
   ·exact fun e=>by cases e
   ·exact fun e=>by cases e
theorem YgG {K:Nat}{o:ByteArray}{d:Bool}(ho:o.size<=K)(q:List ByteArray)(h:∀x∈q,x.size<=K):(YH o d q).last.size<=2*K/\((YH o d q).joined=true->(YH o d q).last.size<=K):=
 fold_size q _ h (by show o.size<=_; omega) (fun _=>ho)
def Ts.wordsB (l:Ts):List ByteArray:=l.words.map bA
def Ts.takeN:Nat->Ts->Ts
 |0,_=>.nil
 |_,.nil=>.nil
 |n+1,.cons k t kids rest=>.cons k t kids (rest.takeN n)
def Ts.dropN:Nat->Ts->Ts
 |0,l=>l
 |_,.nil=>.nil
 |n+1,.cons _ _ _ rest=>rest.dropN n
theorem Ts.take_len:∀(n:Nat) (l:Ts),n<=l.len->(l.takeN n).len=n
 |0,l,_=>by cases l<;>rfl
 |n+1,.nil,h=>by simp[Ts.len] at h
 |n+1,.cons k t kids rest,h=>by simp only[Ts.takeN,Ts.len] at h⊢; rw[Ts.take_len n rest Zo]
theorem Ts.drop_len:∀(n:Nat) (l:Ts),n<=l.len->n+(l.dropN n).len=l.len
 |0,l,_=>by simp[Ts.dropN]
 |n+1,.nil,h=>by simp[Ts.len] at h
 |n+1,.cons k t kids rest,h=>by simp only[Ts.dropN,Ts.len] at h⊢; have:=Ts.drop_len n rest Zo; omega
theorem Ts.take_nodes:∀(n:Nat) (l:Ts),(l.takeN n).nodes<=l.nodes
 |0,l=>by cases l<;>simp[Ts.takeN,Ts.nodes]
 |n+1,.nil=>by simp[Ts.takeN]
 |n+1,.cons k t kids rest=>by simp only[Ts.takeN,Ts.nodes]; have:=Ts.take_nodes n rest; omega
theorem Ts.drop_nodes:∀(n:Nat) (l:Ts),(l.dropN n).nodes<=l.nodes
 |0,l=>by simp[Ts.dropN]
 |n+1,.nil=>by simp[Ts.dropN]
 |n+1,.cons k t kids rest=>by simp only[Ts.dropN,Ts.nodes]; have:=Ts.drop_nodes n rest; omega
theorem Ts.take_deep:∀(n:Nat) (l:Ts),(l.takeN n).deep<=l.deep
 |0,l=>by cases l<;>simp[Ts.takeN,Ts.deep]
 |n+1,.nil=>by simp[Ts.takeN]
 |n+1,.cons k t kids rest=>by simp only[Ts.takeN,Ts.deep]; have:=Ts.take_deep n rest; omega
theorem Ts.drop_deep:∀(n:Nat) (l:Ts),(l.dropN n).deep<=l.deep
 |0,l=>by simp[Ts.dropN]
 |n+1,.nil=>by simp[Ts.dropN]
 |n+1,.cons k t kids rest=>by simp only[Ts.dropN,Ts.deep]; have:=Ts.drop_deep n rest; omega
theorem Ts.take_right (most:Int):∀(n:Nat) (l:Ts),l.right most=true->(l.takeN n).right most=true
 |0,l,_=>by cases l<;>rfl
 |n+1,.nil,_=>rfl
 |
  n+1,.cons k t kids rest,h=>by
  simp only[Ts.takeN,Ts.right,Bool.and_eq_true] at h⊢;exact⟨h.1,Ts.take_right most n rest h.2⟩
theorem Ts.drop_right (most:Int):∀(n:Nat) (l:Ts),l.right most=true->(l.dropN n).right most=true
 |0,l,h=>by simpa[Ts.dropN] using h
 |n+1,.nil,_=>rfl
 |
  n+1,.cons k t kids rest,h=>by
  simp only[Ts.dropN,Ts.right,Bool.and_eq_true] at h⊢;exact Ts.drop_right most n rest h.2
structure Ts.ok (l:Ts):Prop where
 nodes:l.nodes<=4000
 deep:l.deep<=100
 right:l.right 8=true
theorem Ts.ok_form {l:Ts}(h:l.ok):Yy 8 l=0:=Yab.2 ⟨h.nodes,h.deep,h.right⟩
theorem Ts.right_mono {a b:Int}(hab:a<=b):∀l:Ts,l.right a=true->l.right b=true
 |.nil,_=>rfl
 |
  .cons k t kids rest,h=>by
  simp only[Ts.right,Bool.and_eq_true,decide_eq_true_eq] at h⊢;exact⟨⟨⟨by omega,h.1.1.2⟩,Ts.right_mono hab kids h.1.2⟩,Ts.right_mono hab rest h.2⟩
theorem Ybe {most:Int}{l:Ts}(hm:most<=8)(h:Yy most l=0):l.ok:=by
 obtain⟨h1,h2,h3⟩:=Yab.1 h;exact⟨h1,h2,Ts.right_mono hm l h3⟩
theorem Ts.ok.take {l:Ts}(h:l.ok)(n:Nat):(l.takeN n).ok:=⟨Nat.le_trans (Ts.take_nodes n l) h.nodes,Nat.le_trans (Ts.take_deep n l) h.deep,Ts.take_right 8 n l h.right⟩
theorem Ts.ok.drop {l:Ts}(h:l.ok)(n:Nat):(l.dropN n).ok:=⟨Nat.le_trans (Ts.drop_nodes n l) h.nodes,Nat.le_trans (Ts.drop_deep n l) h.deep,Ts.drop_right 8 n l h.right⟩
theorem Ts.ok.kids {k:Int}{t:ByteArray}{kids rest:Ts}(h:(Ts.cons k t kids rest).ok):kids.ok:=by
 obtain⟨h1,h2,h3⟩:=h;simp only[Ts.nodes] at h1;simp only[Ts.right,Bool.and_eq_true] at h3;refine⟨by omega,?_,h3.1.2⟩;simp only[Ts.deep] at h2;by_cases hc:k=4\/k=8\/kids.len≠0
 ·rw[if_pos hc] at h2; omega
 ·have hk:kids.len=0:=by omega
  cases kids with
  |nil=>simp[Ts.deep]
  |cons=>simp[Ts.len] at hk
theorem Ts.ok.one {k:Int}{t:ByteArray}{kids rest:Ts}(h:(Ts.cons k t kids rest).ok):Yq k t kids.len=true/\k<=8:=by
 have h3:=h.right;simp only[Ts.right,Bool.and_eq_true,decide_eq_true_eq] at h3;exact⟨h3.1.1.2,h3.1.1.1⟩
theorem J9 {k:Int}{t:ByteArray}{n:Nat}(h:Yq k t n=true):t.size<=501:=by
 unfold Yq at h;split at h
 ·have:=of_decide_eq_true h; omega
 ·split at h
  ·unfold Yh at h;simp only[Bool.and_eq_true,decide_eq_true_eq] at h;omega
  ·split at h
   ·cases h
   ·split at h
    ·have:=of_decide_eq_true h; omega
    ·split at h
     ·unfold YY at h;simp only[Bool.and_eq_true,decide_eq_true_eq] at h;omega
     ·split at h
      ·rw[Ye1] at h;simp only[Bool.and_eq_true,decide_eq_true_eq] at h;have h5:=h.1.1.2;rw[YmX] at h5;unfold numT at h5;split at h5
       ·rw[ByteArray.size_extract] at h5; omega
       ·omega
      ·split at h
       ·unfold YbI at h;simp only[Bool.and_eq_true,decide_eq_true_eq] at h;omega
       ·cases h
theorem Yes (prev nextK:Option Int)(k:Int)(t:ByteArray)(kn:Bool)(kw:List UInt8)(ht:t.size<=501):(Jt prev nextK k t kn kw).length<=2009+kw.length:=by
 have e1:=Ya2 34 t.data.toList;have e2:=Ybz 39 (bu t 0);have e3:=Ye5 k t;have e4:t.data.toList.length=t.size:=Array.length_toList;have e5:(YaO k t).data.toList.length=(YaO k t).size:=Array.length_toList;unfold Jt;rw[List.length_append];have a1:(if prev.isSome=true/\(k≠1\/Jm prev=true) then [32] else ([]:List UInt8)).length<=1:=by split<;>simp
 have a2:(if k=1 then (if Jm prev then [39] else [])++escT 39 (bu t 0)++(if Jm nextK then [39] else [])
  else if k=2 then (if Yh 60 t=true then t.data.toList else 34::(t.data.toList.flatMap (escT 34)++[34]))
  else if k=3 then t.data.toList
  else if k=4 then 40::(kw++[41])
  else if k=8 then 60::(t.data.toList++((if kn then [] else [32])++(kw++[62])))
  else (YaO k t).data.toList).length<=2008+kw.length:=by
   repeat' split
   all_goals (try simp only[List.length_append,List.length_cons,List.length_nil])
   all_goals omega
 omega
theorem YfM:∀(l:Ts) (prev:Option Int),l.right 8=true->(l.wr prev).length<=2009*l.nodes
 |.nil,_,_=>by simp[Ts.wr]
 |
  .cons k t kids rest,prev,h=>by
  simp only[Ts.right,Bool.and_eq_true] at h;have h1:=YfM kids none h.1.2;have h2:=YfM rest (some k) h.2;have h3:=Yes prev rest.headK k t (kids.len==0) (kids.wr none) (J9 h.1.1.2);simp only[Ts.wr,List.length_append,Ts.nodes];omega
def Ts.escs:Nat->Ts->List UInt8
 |0,_=>[]
 |_,.nil=>[]
 |n+1,.cons _ t _ rest=>escT 39 (bu t 0)++rest.escs n
theorem Ygl (n:Nat)(l:Ts):(l.takeN (n+1)).headK=l.headK:=by cases l<;>rfl
theorem Ybs {k:Int}{t:ByteArray}{kids rest:Ts}(h:k=1):(Ts.cons k t kids rest).run=rest.run+1:=by simp[Ts.run,h]
theorem YpF:∀l:Ts,(l.takeN l.run).wr (some 1)=l.escs l.run++(if l.run=0 then [] else [39])
 |.nil=>rfl
 |
  .cons k t kids rest=>by
  by_cases h:k=1
  ·subst h;rw[Ybs rfl];have ih:=YpF rest;simp only[Ts.takeN,Ts.wr,ih,Ts.escs];have e:Jt (some 1) (rest.takeN rest.run).headK 1 t (kids.len==0) (kids.wr none)=escT 39 (bu t 0)++(if Jm (rest.takeN rest.run).headK then [39] else []):=by
    simp[Jt,Jm]
   rw[e];cases hr:rest.run with
   |
    zero=>
    have:rest.takeN 0= .nil:=by cases rest<;>rfl
    rw[this];simp[Ts.headK,Jm,Ts.escs]
   |
    succ n=>
    rw[Ygl];have:rest.headK=some 1:=by
     cases rest with
     |nil=>simp[Ts.run] at hr
     |
      cons k2 t2 kids2 rest2=>
      by_cases hk:k2=1
      ·rw[hk]; rfl
      ·simp[Ts.run,hk] at hr
    rw[this];simp[Jm]
  ·have:(Ts.cons k t kids rest).run=0:=by simp[Ts.run,h]
   rw[this]; rfl
theorem YmC {t:ByteArray}{kids rest:Ts}:((Ts.cons 1 t kids rest).takeN (rest.run+1)).wr none=39::((Ts.cons 1 t kids rest).escs (rest.run+1)++[39]):=by
 have ih:=YpF rest;simp only[Ts.takeN,Ts.wr,ih,Ts.escs];have e:Jt none (rest.takeN rest.run).headK 1 t (kids.len==0) (kids.wr none)=39::(escT 39 (bu t 0)++(if Jm (rest.takeN rest.run).headK then [39] else [])):=by
  simp[Jt,Jm]
 rw[e];cases hr:rest.run with
 |
  zero=>
  have:rest.takeN 0= .nil:=by cases rest<;>rfl
  rw[this];simp[Ts.headK,Jm,Ts.escs]
 |
  succ n=>
  rw[Ygl];have:rest.headK=some 1:=by
   cases rest with
   |nil=>simp[Ts.run] at hr
   |
    cons k2 t2 kids2 rest2=>
    by_cases hk:k2=1
    ·rw[hk]; rfl
    ·simp[Ts.run,hk] at hr
  rw[this];simp[Jm]
theorem Yh2:∀l:Ts,l.run≠0->l.words=(39::(l.escs l.run++[39]))::(l.dropN l.run).words
 |.nil,h=>by simp[Ts.run] at h
 |
  .cons k t kids rest,h=>by
  have hk:k=1:=by
   by_cases q:k=1
   ·exact q
   ·simp[Ts.run,q] at h
  subst hk;rw[Ybs rfl];simp only[Ts.words,Ts.escs,Ts.dropN];rw[if_neg Zd,if_neg Zd,if_pos trivial];cases hr:rest.run with
  |
   zero=>
   have hn:¬rest.headK=some 1:=by
    intro q;cases rest with
    |nil=>simp[Ts.headK] at q
    |
     cons k2 t2 kids2 rest2=>
     have:k2=1:=by simpa[Ts.headK] using q
     subst this;rw[Ybs rfl] at hr; omega
   unfold Yhy;rw[if_neg hn];simp[Ts.escs,Ts.dropN]
  |
   succ n=>
   have ih:=Yh2 rest Zo;have hn:rest.headK=some 1:=by
    cases rest with
    |nil=>simp[Ts.run] at hr
    |
     cons k2 t2 kids2 rest2=>
     by_cases hk:k2=1
     ·rw[hk]; rfl
     ·simp[Ts.run,hk] at hr
   rw[ih,hr];unfold Yhy;rw[if_pos hn];simp
def Ts.part (l:Ts):Nat:=max l.run 1
theorem Ylm {k:Int}{t:ByteArray}{kids rest:Ts}(h4:k≠4)(h8:k≠8):
 (Ts.cons k t kids rest).wordsB=Ydw ((Ts.cons k t kids rest).takeN (Ts.cons k t kids rest).part)::((Ts.cons k t kids rest).dropN (Ts.cons k t kids rest).part).wordsB:=by
 by_cases hk:k=1
 ·subst hk;have hr:(Ts.cons 1 t kids rest).part=rest.run+1:=by unfold Ts.part; rw[Ybs rfl]; omega
  have e:=Yh2 (.cons 1 t kids rest) (by rw[Ybs rfl]; omega);rw[Ybs rfl] at e;rw[hr];unfold Ts.wordsB Ydw;rw[e,YmC];rfl
 ·have hr:(Ts.cons k t kids rest).part=1:=by unfold Ts.part; simp[Ts.run,hk]
  rw[hr];have e0:(Ts.cons k t kids rest).takeN 1= .cons k t kids .nil:=by cases rest<;>rfl
  have e1:(Ts.cons k t kids rest).dropN 1=rest:=by simp only[Ts.dropN]
  rw[e0,e1];unfold Ts.wordsB Ydw;simp only[Ts.words,if_neg h4,if_neg h8,if_neg hk,List.map_cons,Ts.wr,List.append_nil,Ts.headK];congr 1
  unfold Jt;simp only[if_neg h4,if_neg h8,if_neg hk];rfl
theorem Yfg {t:ByteArray}{kids rest:Ts}:(Ts.cons 4 t kids rest).wordsB=JR ⟨#[41]⟩ ⟨#[40]⟩ true kids.wordsB++rest.wordsB:=by
 unfold Ts.wordsB;simp only[Ts.words,if_pos,List.map_append,YgC];rfl
theorem Ygw {t:ByteArray}{kids rest:Ts}:(Ts.cons 8 t kids rest).wordsB=JR ⟨#[62]⟩ (⟨#[60]⟩++t) false kids.wordsB++rest.wordsB:=by
 unfold Ts.wordsB;have e:(8:Int)≠4:=Zd;simp only[Ts.words,if_neg e,if_pos,List.map_append,YgC];rw[show bA (60::t.data.toList)=⟨#[60]⟩++t by rw[YqD,Yn1]];rfl
def sumL (l:List (List UInt8)):Nat:=(l.map List.length).sum
theorem Yai (x:List UInt8)(l:List (List UInt8)):sumL (x::l)=x.length+sumL l:=by simp[sumL]
theorem YjX (a b:List (List UInt8)):sumL (a++b)=sumL a+sumL b:=by simp[sumL]
theorem Ybq:∀(e:List UInt8) (ws:List (List UInt8)) (o:List UInt8) (d:Bool),sumL (YJ e o d ws)=o.length+sumL ws+e.length
 |e,[],o,d=>by cases d<;>simp[YJ,sumL]
 |e,x::r,o,true=>by rw[YJ,Ybq e r,Yai,List.length_append]; omega
 |e,x::r,o,false=>by rw[YJ,Yai,Ybq e r,Yai]; omega
theorem YeC:∀(l:Ts),l.right 8=true->sumL l.words<=2009*l.nodes
 |.nil,_=>by simp[Ts.words,sumL]
 |
  .cons k t kids rest,h=>by
  simp only[Ts.right,Bool.and_eq_true] at h;have h1:=YeC kids h.1.2;have h2:=YeC rest h.2;have h3:=J9 h.1.1.2;have h4:=Yes none none k t true [] h3;have h5:=Ybz 39 (bu t 0);have h6:t.data.toList.length=t.size:=Array.length_toList;simp only[Ts.words,Ts.nodes];split
  ·rw[YjX,Ybq]; simp only[List.length_cons,List.length_nil]; omega
  ·split
   ·rw[YjX,Ybq]; simp only[List.length_cons,List.length_nil]; omega
   ·split
    ·unfold Yhy;split
     ·split
      ·rename_i hw
       rw[hw,Yai] at h2;rw[Yai];simp only[List.length_cons,List.length_append,List.length_drop];omega
      ·simp only[sumL,List.map_nil,List.sum_nil]; omega
     ·rw[Yai]; simp only[List.length_cons,List.length_append,List.length_nil]; omega
    ·rw[Yai]; simp only[List.length_nil] at h4; omega
theorem Yoz {l:List (List UInt8)}{x:List UInt8}(h:x∈l):x.length<=sumL l:=by
 induction l with
 |nil=>cases h
 |
  cons y l ih=>
  rw[Yai];rcases List.mem_cons.1 h with rfl | h
  ·omega
  ·have:=ih h; omega
theorem YiW {l:Ts}(h:l.ok):∀x∈l.wordsB,x.size<=10000000:=by
 intro x hx;obtain⟨y,hy,rfl⟩:=List.mem_map.1 hx;have h1:=Yoz hy;have h2:=YeC l h.right;have h3:=h.nodes;rw[YbE];omega
theorem Ybl:∀(l:Ts),l.words.length<=2*l.nodes
 |.nil=>by simp[Ts.words]
 |
  .cons k t kids rest=>by
  have h1:=Ybl kids;have h2:=Ybl rest;have h3:∀(e:List UInt8) (ws:List (List UInt8)) (o:List UInt8) (d:Bool),(YJ e o d ws).length<=ws.length+1:=by
   intro e ws;induction ws with
   |nil=>intro o d; cases d<;>simp[YJ]
   |
    cons x r ih=>
    intro o d;cases d
    ·have:=ih x false; simp only[YJ,List.length_cons]; omega
    ·have:=ih (o++x) false; simp only[YJ,List.length_cons]; omega
  simp only[Ts.words,Ts.nodes];split
  ·have:=h3 [41] kids.words [40] true; rw[List.length_append]; omega
  ·split
   ·have:=h3 [62] kids.words (60::t.data.toList) false; rw[List.length_append]; omega
   ·split
    ·unfold Yhy;split
     ·split
      ·rename_i hw; rw[hw] at h2; simp only[List.length_cons] at h2⊢; omega
      ·simp
     ·rw[List.length_cons]; omega
    ·rw[List.length_cons]; omega
theorem YkF:∀(n:Nat) (l:Ts),(l.escs n).length<=4*n
 |0,l=>by cases l<;>simp[Ts.escs]
 |n+1,.nil=>by simp[Ts.escs]
 |
  n+1,.cons k t kids rest=>by
  have h1:=YkF n rest;have h2:=Ybz 39 (bu t 0);simp only[Ts.escs,List.length_append];omega
theorem YoQ {k:Int}{t:ByteArray}{kids rest:Ts}(h4:k≠4)(h8:k≠8)(h:(Ts.cons k t kids rest).ok):(Ydw ((Ts.cons k t kids rest).takeN (Ts.cons k t kids rest).part)).size<=40000:=by
 have hn:=h.nodes;simp only[Ts.nodes] at hn;have e:∀l:List UInt8,(⟨l.toArray⟩:ByteArray).size=l.length:=YbE;unfold Ydw;rw[e];by_cases hk:k=1
 ·subst hk;have hr:(Ts.cons 1 t kids rest).part=rest.run+1:=by unfold Ts.part; rw[Ybs rfl]; omega
  have h1:=YkF (rest.run+1) (.cons 1 t kids rest);have h2:=Ts.run_le rest;have h3:=Ts.len_le rest;rw[hr,YmC];simp only[List.length_cons,List.length_append,List.length_nil];omega
 ·have hr:(Ts.cons k t kids rest).part=1:=by unfold Ts.part; simp[Ts.run,hk]
  rw[hr];have e0:(Ts.cons k t kids rest).takeN 1= .cons k t kids .nil:=by cases rest<;>rfl
  rw[e0];have h1:=J9 h.one.1;have h2:=Yes none none k t (kids.len==0) [] h1;have h3:Jt none none k t (kids.len==0) (kids.wr none)=Jt none none k t (kids.len==0) []:=by
   unfold Jt;simp only[if_neg h4,if_neg h8]
  simp only[Ts.wr,Ts.headK,List.append_nil,h3];simp only[List.length_nil] at h2;omega
end Go.Proofs.YteamjdmhdfjopaaGreatDoor
