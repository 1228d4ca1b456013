/- A part of the proof; it holds the texts Quo (names and blanks shortened). -/
import Derived.Test.YteamjdmhdfjopaaGreatDoorC20
import Derived.Test.YteamjdmhdfjopaaGreatDoorC10
import Derived.Test.YteamjdmhdfjopaaGreatDoorC1
import Derived.Lib.UnsafeStr
import Derived.Lib.BufferRead
namespace Go.Proofs.YteamjdmhdfjopaaGreatDoor
open Go.RowKit
set_option maxRecDepth 100000
set_option maxHeartbeats 8000000
set_option linter.unusedVariables false
set_option linter.unusedSimpArgs false
set_option linter.unnecessarySimpa false
theorem Yix:(Tryz.prog.info? 5).map (fun i=>(i.zero,i.size,i.bytes))=some (some (.int .u8 0),1,1):=by kernel_rfl
theorem Ya8 (w:World):(zeroValue 5).run Tryz.prog w= .ok (.int .u8 0) w:=by kernel_rfl
theorem YnI (mark c:Int):Yo c (escs mark)=escF mark c:=by
 unfold escs escF;split<;>rfl
section
variable (b:Nat)(s:ByteArray)(i:Nat)(v:Value)(W:World)(h1:i<=40000)(hw:Yw b s i v W)
include h1 hw
theorem Yig:Calls Tryz.prog 211 #[.pointer (some ⟨b,0,none⟩),.int .i64 0] W fun e w'=>e= .returned (.int .u8 (bt s i))/\∃k,w'=W.drewN k:=next_any b s i 0 v W h1 Zo hw
theorem Ye3:Calls Tryz.prog 211 #[.pointer (some ⟨b,0,none⟩),.int .i64 1] W fun e w'=>e= .returned (.int .u8 (bt s (i+1)))/\∃k,w'=W.drewN k:=next_any b s i 1 v W h1 Zo hw
theorem YmZ:Calls Tryz.prog 211 #[.pointer (some ⟨b,0,none⟩),.int .i64 2] W fun e w'=>e= .returned (.int .u8 (bt s (i+2)))/\∃k,w'=W.drewN k:=next_any b s i 2 v W h1 Zo hw
end
def Yd (k:Int)(t:ByteArray)(a:Int):Array Value:=#[.int .i64 k,.string t,.int .i64 a]
structure QuoW (B b:Nat)(s:ByteArray)(fr:Nat)(mark:Int)(sp:List (Nat×Nat))(v:Value)(w:World)(i:Nat)(out:List UInt8)(v8:Value)(wr:World):Prop where
 scan:Yk B b s i sp v wr
 tok:wr.heap[w.heap.size]? =some (.cells #[.int .i64 0,.string ⟨#[]⟩,.int .i64 0] 136 (0,0))
 flt:wr.heap[w.heap.size+1]? =some (.cells #[.int .i64 fr,.int .i64 41] 192 (0,0))
 mp:wr.heap[w.heap.size+1+1]? =some (Yx (escs mark))
 own:wr.ownsRow (w.heap.size+1+1+1) 5 1 v8 out.length (Lib.byteCells out)
 kept:Yg b v w wr
 few:out.length<=i
section
variable {B b:Nat}{s:ByteArray}{fr:Nat}{mark:Int}{sp:List (Nat×Nat)}{v:Value}{w:World}{i:Nat}{out:List UInt8}{v8:Value}{wr:World}
theorem QuoW.drewN (h:QuoW B b s fr mark sp v w i out v8 wr)(k:Nat):QuoW B b s fr mark sp v w i out v8 (wr.drewN k):=⟨h.scan.drewN k,h.tok,h.flt,h.mp,h.own,h.kept.drewN k,h.few⟩
theorem QuoW.set (h:QuoW B b s fr mark sp v w i out v8 wr)(hb:b<w.heap.size)(j:Nat)(h1:j<=s.size)(h2:i<=j):QuoW B b s fr mark sp v w j out v8 (wr.setCell ⟨b,1,none⟩ (.int .i64 j)):=by
 have hk:=Keep.of_setCell wr ⟨b,1,none⟩ (.int .i64 j);have hsz:w.heap.size+1+1<wr.heap.size:=by obtain⟨q,_⟩:=Zg h.mp; exact q
 refine⟨h.scan.set1 j h1 h2,(hk.block _ Zo (by show ¬_=b; omega)).trans h.tok,(hk.block _ Zo (by show ¬_=b; omega)).trans h.flt,(hk.block _ Zo (by show ¬_=b; omega)).trans h.mp,?_,h.kept.set 1 _,by have:=h.few; omega⟩;exact hk.owns h.own (fun k hkk e=>by have:=(h.own.lt k hkk).1; have e2:k=b:=e; omega)
theorem QuoW.push {w1:World}{o:Obj}{gg cap:Nat}(h:QuoW B b s fr mark sp v w i out v8 wr)(hb:b<w.heap.size)(hi:out.length<i)(x:UInt8){c:Int}(hc:c=x.toNat)
 (h1:w1.ownsRow (w.heap.size+1+1+1) 5 1 (.slice (some ⟨gg,0,none⟩) (out.length+1) cap) (out.length+1) (Lib.byteCells out++[.int .u8 c]))(hg:(wr.alloc o).grownBy w1 v8.ownBlock):
 QuoW B b s fr mark sp v w i (out++[x]) (.slice (some ⟨gg,0,none⟩) (out.length+1) cap) w1:=by
 have hsz:w.heap.size+1+1<wr.heap.size:=by obtain⟨q,_⟩:=Zg h.mp; exact q
 subst hc;have hfar:∀k,k<w.heap.size+1+1+1->w1.heap[k]? =wr.heap[k]?:=fun k hk=>
  (hg.block k (by show k<(wr.alloc o).heap.size; simp; omega) (fun e=>by have:=(h.own.lt k e.symm).1; omega)).trans (Below.heap_alloc wr o k Zo)
 have hK:Keep (fun k=>v8.ownBlock=some k) wr w1:=Keep.trans (Keep.of_alloc (S:=fun k=>v8.ownBlock=some k) wr o) (Keep.of_grown hg) (fun _ _ q=>q);have hown:∀k,v8.ownBlock=some k->w.heap.size+1+1+1<=k:=fun k q=>(h.own.lt k q).1;refine⟨⟨hK.row h.scan.row (fun q=>by have:=hown _ q; omega),hK.owns h.scan.own (fun k hk q=>?_),h.scan.le,h.scan.few⟩,(hfar _ Zo).trans h.tok,(hfar _ Zo).trans h.flt,(hfar _ Zo).trans h.mp,?_,?_,by simp; omega⟩
 ·obtain⟨c,hc⟩:=Yr h.scan.own hk;obtain⟨d,hd⟩:=Yr h.own q;rw[hc] at hd; cases hd
 ·rw[List.length_append,List.length_singleton,show Lib.byteCells (out++[x])=Lib.byteCells out++[.int .u8 x.toNat] by simp[Lib.byteCells]];exact h1
 ·exact Keep.trans h.kept hK (fun k hk q=>by have:=hown k q; omega)
end
theorem YmI {B b:Nat}{s:ByteArray}{at_:Nat}{sp:List (Nat×Nat)}{v:Value}{w W:World}{mark:Int}{n:Nat}(hw:Yk B b s at_ sp v w)
 (hW:(((w.alloc (.cells #[.int .i64 0,.string ⟨#[]⟩,.int .i64 0] 136)).drewN n).alloc (.cells #[.int .i64 at_,.int .i64 41] 192)).alloc (Yx (escs mark))=W):
 QuoW B b s at_ mark sp v w at_ [] (.slice none 0 0) W:=by
 subst hW;have hb:Below w.heap.size w ((((w.alloc (.cells #[.int .i64 0,.string ⟨#[]⟩,.int .i64 0] 136)).drewN n).alloc (.cells #[.int .i64 at_,.int .i64 41] 192)).alloc (Yx (escs mark))):=
  (((below_drewN (below_alloc1 _ _) _).alloc Zs _).alloc (by simp; omega) _)
 have hk:Yg b v w ((((w.alloc (.cells #[.int .i64 0,.string ⟨#[]⟩,.int .i64 0] 136)).drewN n).alloc (.cells #[.int .i64 at_,.int .i64 41] 192)).alloc (Yx (escs mark))):=Keep.of_below hb;refine⟨⟨World.rowIs.of_block hw.row (hb.block _ hw.row.lt),?_,hw.le,hw.few⟩,?_,?_,?_,World.ownsRow_nil _ _ _ _,hk,by simp⟩
 ·exact(Keep.of_below (S:=fun _=>False) hb).owns hw.own (fun _ _ q=>q)
 ·refine(Below.heap_alloc _ _ _ (by simp; omega)).trans ((Below.heap_alloc _ _ _ Zs).trans (heap_alloc_new w _))
 ·refine(Below.heap_alloc _ _ _ Zs).trans ?_;have:=heap_alloc_new ((w.alloc (.cells #[.int .i64 0,.string ⟨#[]⟩,.int .i64 0] 136)).drewN n) (.cells #[.int .i64 at_,.int .i64 41] 192);simpa using this
 ·have:=heap_alloc_new (((w.alloc (.cells #[.int .i64 0,.string ⟨#[]⟩,.int .i64 0] 136)).drewN n).alloc (.cells #[.int .i64 at_,.int .i64 41] 192)) (Yx (escs mark));simpa using this
def zTok:Array Value:=#[.int .i64 0,.string ⟨#[]⟩,.int .i64 0]
theorem Jc:zTok.all (·.oneCell')=true:=by simp[zTok,Value.oneCell']
theorem YR (k:Int)(t:ByteArray)(a:Int):(Yd k t a).all (·.oneCell')=true:=by simp[Yd,Value.oneCell']
theorem Yb (cs:Array Value)(h:cs.size=3):(Tryz.prog.info? 136).map (·.size)=some cs.size:=by rw[h]; kernel_rfl
def YfA (b:Nat)(v:Value)(w:World)(fr:Nat)(code:Int)(e:Ending)(w':World):Prop:=
 ∃k,e= .returned (.tuple #[.agg zTok,.iface 190 (.pointer (some ⟨k,0,none⟩))])/\w.heap.size<=k/\w'.heap[k]? =some (.cells #[.int .i64 fr,.int .i64 code] 192 (0,0))/\Yg b v w w'
def Yfy (B b:Nat)(s:ByteArray)(sp:List (Nat×Nat))(v:Value)(w:World)(kind:Int)(text:ByteArray)(fr fin:Nat)(e:Ending)(w':World):Prop:=
 e= .returned (.tuple #[.agg #[.int .i64 kind,.string text,.int .i64 fr],.nilIface])/\Yk B b s fin sp v w'/\Yg b v w w'
def Ya7 (B b:Nat)(s:ByteArray)(fr:Nat)(mark:Int)(sp:List (Nat×Nat))(v:Value)(w:World)(r:QuoR)(e:Ending)(w':World):Prop:=
 match r with
 |.bad=>YfA b v w fr 41 e w'
 |
  .ok out fin=>if mark=39 then Yfy B b s sp v w 1 ⟨out.toArray⟩ fr fin e w'
  else if out.length<1\/60<out.length then YfA b v w fr 43 e w' else Yfy B b s sp v w 2 ⟨out.toArray⟩ fr fin e w'
theorem Jj {b:Nat}{v:Value}{w wr:World}(h:Yg b v w wr)(g:Nat)(hg:w.heap.size<=g)(cs:Array Value):Yg b v w (wr.setRow g cs):=
 Keep.trans (T:=fun k=>k=g) h ⟨rfl,rfl,rfl,by simp,fun k _ n=>setRow_other _ _ _ _ n⟩ (fun i hi e=>by omega)
theorem YaN {B b:Nat}{s:ByteArray}{fr:Nat}{mark:Int}{sp:List (Nat×Nat)}{v:Value}{w:World}{i:Nat}{out:List UInt8}{v8:Value}{wr:World}{R:QuoR}
 (hR:R= .bad)(h:QuoW B b s fr mark sp v w i out v8 wr):Ya7 B b s fr mark sp v w R (.returned (.tuple #[.agg zTok,.iface 190 (.pointer (some ⟨w.heap.size+1,0,none⟩))])) (wr.setRow w.heap.size zTok):=by
 subst hR;exact⟨_,rfl,by omega,(setRow_other _ _ _ _ Zo).trans h.flt,Jj h.kept _ (Nat.le_refl _) _⟩
theorem Ypd {m:Int}(h0:0<=m)(h1:m<=92):m=((m.toNat.toUInt8).toNat:Int):=by
 have:m.toNat%256=m.toNat:=Nat.mod_eq_of_lt Zo;simp[this]; omega
theorem Yln:∀a c:Fin 16,bits BinOp.or IntKind.u8 ((a.val:Int)*16) (c.val:Int)=((hex2 a.val c.val).toNat:Int):=by decide+kernel
theorem YqR {a c:Int}(a0:0<=a)(a1:a<=15)(c0:0<=c)(c1:c<=15):bits BinOp.or IntKind.u8 (a*16) c=((hex2 a c).toNat:Int):=by
 obtain⟨a,rfl⟩:=Int.eq_ofNat_of_zero_le a0;obtain⟨c,rfl⟩:=Int.eq_ofNat_of_zero_le c0;exact Yln ⟨a,by omega⟩ ⟨c,by omega⟩
theorem YmJ {B b:Nat}{s:ByteArray}{fr:Nat}{mark:Int}{sp:List (Nat×Nat)}{v:Value}{w:World}{i:Nat}{out:List UInt8}{v8:Value}{wr:World}(h:QuoW B b s fr mark sp v w i out v8 wr):
 ∃A cap,v8= .slice A out.length cap:=by
 rcases h.own.2 with⟨e,h0⟩ | ⟨g,cap,cur,e,_⟩
 ·exact⟨none,0,by rw[e,h0]⟩
 ·exact⟨_,_,e⟩
theorem YoM {B b:Nat}{s:ByteArray}{fr:Nat}{mark:Int}{sp:List (Nat×Nat)}{v:Value}{w:World}{i:Nat}{out:List UInt8}{v8:Value}{wr:World}(h:QuoW B b s fr mark sp v w i out v8 wr):
 (convert 129 9 v8).run Tryz.prog wr= .ok (.string ⟨out.toArray⟩) wr:=by
 rcases h.own.2 with⟨e,h0⟩ | ⟨g,cap,cur,e,_⟩
 ·rw[e,List.length_eq_zero_iff.1 h0];exact Lib.run_convert_nil_bytes wr 129 9 5 0 Tryz.underlying129 Tryz.underlying5 Tryz.underlying9
 ·have hc:=h.own.cells (g:=g) (by rw[e]; rfl);rw[e];exact run_convert_bytes_back wr 129 9 5 ⟨g,0,none⟩ cap out Tryz.underlying129 Tryz.underlying5 Tryz.underlying9 (fun j hj=>hc j _ (by simp[Lib.byteCells,hj]))
theorem YjP {B b:Nat}{s:ByteArray}{fr:Nat}{mark:Int}{sp:List (Nat×Nat)}{v:Value}{w:World}{i:Nat}{out:List UInt8}{v8:Value}{wr:World}(h:QuoW B b s fr mark sp v w i out v8 wr)
 (hb:b<w.heap.size)(hv:∀k,v.ownBlock=some k->k<w.heap.size)(cs:Array Value):Yk B b s i sp v (wr.setRow w.heap.size cs)/\Yg b v w (wr.setRow w.heap.size cs):=by
 have hk:Keep (fun k=>k=w.heap.size) wr (wr.setRow w.heap.size cs):=⟨rfl,rfl,rfl,by simp,fun k _ n=>setRow_other _ _ _ _ n⟩;refine⟨⟨hk.row h.scan.row Zo,hk.owns h.scan.own (fun k e q=>by have:=hv k e; omega),h.scan.le,h.scan.few⟩,Jj h.kept _ (Nat.le_refl _) _⟩
theorem YmM {B b:Nat}{s:ByteArray}{fr:Nat}{mark:Int}{sp:List (Nat×Nat)}{v:Value}{w:World}{i:Nat}{out:List UInt8}{v8:Value}{wr:World}{R:QuoR}
 (hR:R= .ok out i)(hm:mark=39)(h:QuoW B b s fr mark sp v w i out v8 wr)(hv:∀k,v.ownBlock=some k->k<w.heap.size)(hb:b<w.heap.size):
 Ya7 B b s fr mark sp v w R (.returned (.tuple #[.agg (Yd 1 ⟨out.toArray⟩ fr),.nilIface])) (wr.setRow w.heap.size (Yd 1 ⟨out.toArray⟩ fr)):=by
 subst hR;unfold Ya7;dsimp only;rw[if_pos hm];exact⟨rfl,YjP h hb hv _⟩
theorem YoL {B b:Nat}{s:ByteArray}{fr:Nat}{mark:Int}{sp:List (Nat×Nat)}{v:Value}{w:World}{i:Nat}{out:List UInt8}{v8:Value}{wr:World}{R:QuoR}
 (hR:R= .ok out i)(hm:¬mark=39)(hl:¬(out.length<1\/60<out.length))(h:QuoW B b s fr mark sp v w i out v8 wr)(hv:∀k,v.ownBlock=some k->k<w.heap.size)(hb:b<w.heap.size):
 Ya7 B b s fr mark sp v w R (.returned (.tuple #[.agg (Yd 2 ⟨out.toArray⟩ fr),.nilIface])) (wr.setRow w.heap.size (Yd 2 ⟨out.toArray⟩ fr)):=by
 subst hR;unfold Ya7;dsimp only;rw[if_neg hm,if_neg hl];exact⟨rfl,YjP h hb hv _⟩
theorem Yc6 {B b:Nat}{s:ByteArray}{fr:Nat}{mark:Int}{sp:List (Nat×Nat)}{v:Value}{w:World}{i:Nat}{out:List UInt8}{v8:Value}{wr:World}(h:QuoW B b s fr mark sp v w i out v8 wr)(o:Obj):
 (wr.alloc o).heap[w.heap.size]? =some (.cells #[.int .i64 0,.string ⟨#[]⟩,.int .i64 0] 136 (0,0)):=
 (Below.heap_alloc wr o _ (by obtain⟨q,_⟩:=Zg h.tok; exact q)).trans h.tok
theorem Yj8 {B b:Nat}{s:ByteArray}{fr:Nat}{mark:Int}{sp:List (Nat×Nat)}{v:Value}{w:World}{i:Nat}{out:List UInt8}{v8:Value}{wr:World}{R:QuoR}
 (hR:R= .ok out i)(hm:¬mark=39)(hl:out.length<1\/60<out.length)(h:QuoW B b s fr mark sp v w i out v8 wr):
 Ya7 B b s fr mark sp v w R (.returned (.tuple #[.agg zTok,.iface 190 (.pointer (some ⟨wr.heap.size,0,none⟩))])) ((wr.alloc (.cells #[.int .i64 fr,.int .i64 43] 192)).setRow w.heap.size zTok):=by
 subst hR;unfold Ya7;dsimp only;rw[if_neg hm,if_pos hl];have hlt:w.heap.size<wr.heap.size:=by obtain⟨q,_⟩:=Zg h.tok; exact q
 refine⟨_,rfl,by omega,(setRow_other _ _ _ _ Zo).trans (heap_alloc_new _ _),Jj (Keep.trans h.kept (Keep.of_alloc (S:=fun _=>False) _ _) (fun _ _ q=>False.elim q)) _ (Nat.le_refl _) _⟩
theorem YdE {b:Nat}{s:ByteArray}{x y:Nat}{v v':Value}{w w':World}(h:Yw b s x v w)(h':Yw b s y v' w')(hxy:x<y)(hx:x<=s.size):s.size+1 - atOf b w'<s.size+1 - atOf b w:=by
 rw[h.atOf,h'.atOf]; omega
theorem Yda (B b:Nat)(s:ByteArray)(at_:Nat)(sp:List (Nat×Nat))(v:Value)(w:World)(hs:s.size<=40000)(hw:Yk B b s at_ sp v w)(hlt:at_<s.size)
 (_hB:B<=w.heap.size)(_hbB:B<=b)(mk:Int)(hmk:bt s at_=mk)(hq:mk=39\/mk=34)(R:QuoR)(n:Nat)(hn:s.size - (at_+1)<n)(hR:Hid (quoN s mk n (at_+1) []=R)):
 Calls Tryz.prog 210 #[.pointer (some ⟨b,0,none⟩)] w (Ya7 B b s at_ mk sp v w R):=by
 clear _hB _hbB;have hc0:=hw.row.c0;have hc1:=hw.row.c1;have hf1:=hw.row.frozen 1;have hle:=hw.le;have hbs:=hw.row.lt;have hl:decide (at_<s.size)=true:=by simpa using hlt
 have HB:Hid (((s[at_]'hlt).toNat:Int)=mk):=(Je hlt).trans hmk;clear hmk;have hE:=fun w=>Yfo ((s[at_]'hlt).toNat:Int) w;go_enter Tryz.func210,Tryz.ntmps210;go_wp2;go_quiet (fail)
 go_wp2_with fail;refine(hE _).mono ?_;rintro e w' ⟨rfl,rfl⟩;clear hE;generalize hW:World.alloc _ (Yx _)=W;have hQ:=YmI hw hW;clear hW hc0 hc1 hf1;have hc1:=hQ.scan.row.c1;have hf1:=hQ.scan.row.frozen 1;rw[HB.out] at hQ;rw[HB.out];clear HB;have hQ2:=hQ.set hbs (at_+1) hlt Zo;go_wp2_with fail;generalize hW2:World.setCell _ _ _=W2;have hQ3:QuoW B b s at_ mk sp v w (at_+1) [] (.slice none 0 0) W2:=by rw[<-hW2]; exact hQ2
 clear hW2 hQ2 hQ hc1 hf1;go_loopw [8] (fun v8 wr=>∃i out n' vv,vv=v8/\QuoW B b s at_ mk sp v w i out vv wr/\at_<i/\s.size - i<n'/\Hid (quoN s mk n' i out=R)/\out.length<i) (fun _ wr=>s.size+1 - atOf b wr)
 case atStart=>exact⟨at_+1,[],n,_,rfl,hQ3,by omega,hn,hR,by simp⟩
 case round=>
  obtain⟨i,out,n',vv,hvv,hQ,hi,hn',hR',hfew⟩:=hrel;subst hvv;clear hQ3;have hle:=hQ.scan.le;have hN:=Yig b s i v wr Zo hQ.scan.row;obtain⟨n',rfl⟩:∃k,n'=k+1:=⟨n' - 1,by omega⟩;have hc0:=hQ.scan.row.c0;have hc1:=hQ.scan.row.c1;have hf1:=hQ.scan.row.frozen 1;have b0:=Yan s i;have b1:=YaU s i;by_cases hm:bt s i=mk
  ·have nm:(bt s i != mk)=false:=by simpa using hm
   have HM:=Zh hm;clear hm;go_wp2_with fail;refine hN.mono ?_;rintro e w1 ⟨rfl,k1,rfl⟩;clear hN;have hi2:i<s.size:=by
    rcases Nat.lt_or_ge i s.size with q | q
    ·exact q
    ·have:=Jp q; have:=HM.out; omega
   have hQ9:=(hQ.drewN k1).set hbs (i+1) Zo Zo;have HX:Hid (R= .ok out (i+1)):=YmL hR' HM.out;have hvl:=fun k e=>(hw.own.lt k e).2;have hcv:(convert 129 9 vv).run Tryz.prog ((wr.drewN k1).setCell ⟨b,1,none⟩ (.int .i64 ((i:Int)+1)))= .ok (.string ⟨out.toArray⟩) ((wr.drewN k1).setCell ⟨b,1,none⟩ (.int .i64 ((i:Int)+1))):=YoM hQ9;obtain⟨A,cap,rfl⟩:=YmJ hQ;by_cases h39:mk=39
   ·have n39:(mk==39)=true:=beq_iff_eq.2 h39;have H39:=Zh h39;clear h39;go_wp2_with (refine wpList_store_row rfl 136 (.tmp 2) (.tmp 168) rfl w.heap.size (Yd 1 ⟨out.toArray⟩ at_) rfl rfl 136 zTok hQ9.tok (Yb _ rfl) rfl (YR _ _ _) ?_);refine bodyPost_ret (v:=.tuple #[.agg (Yd 1 ⟨out.toArray⟩ at_),.nilIface]) ?_ rfl ?_
    ·exact Ya rfl _ _ w.heap.size 136 (Yd 1 ⟨out.toArray⟩ at_) (0,0) _ _ rfl rfl (setRow_heap _ _ _ _ _ _ (by exact hQ9.tok)) Tryz.underlying136 rfl (Yb _ rfl)
    exact YmM HX.out H39.out hQ9 hvl hbs
   ·have n39:(mk==39)=false:=beq_eq_false_iff_ne.2 h39;have H39:=Zh h39;clear h39;by_cases hl1:out.length<1
    ·have g2:((out.length:Int)<1):=by omega
     go_wp2_with (refine wpList_store_row rfl 136 (.tmp 2) (.tmp 177) rfl w.heap.size zTok rfl rfl 136 zTok (Yc6 hQ9 _) (Yb _ rfl) rfl Jc ?_);refine bodyPost_ret (v:=.tuple #[.agg zTok,.iface 190 (.pointer (some ⟨((wr.drewN k1).setCell ⟨b,1,none⟩ (.int .i64 ((i:Int)+1))).heap.size,0,none⟩))]) ?_ rfl ?_
     ·exact Ya rfl _ _ w.heap.size 136 zTok (0,0) _ _ rfl Zs (setRow_heap _ _ _ _ _ _ (Yc6 hQ9 _)) Tryz.underlying136 rfl (Yb _ rfl)
     exact Yj8 HX.out H39.out Zo hQ9
    ·by_cases hl60:60<out.length
     ·have g2:¬((out.length:Int)<1):=by omega
      have g3:((60:Int)<out.length):=Zo;go_wp2_with (refine wpList_store_row rfl 136 (.tmp 2) (.tmp 177) rfl w.heap.size zTok rfl rfl 136 zTok (Yc6 hQ9 _) (Yb _ rfl) rfl Jc ?_);refine bodyPost_ret (v:=.tuple #[.agg zTok,.iface 190 (.pointer (some ⟨((wr.drewN k1).setCell ⟨b,1,none⟩ (.int .i64 ((i:Int)+1))).heap.size,0,none⟩))]) ?_ rfl ?_
      ·exact Ya rfl _ _ w.heap.size 136 zTok (0,0) _ _ rfl Zs (setRow_heap _ _ _ _ _ _ (Yc6 hQ9 _)) Tryz.underlying136 rfl (Yb _ rfl)
      exact Yj8 HX.out H39.out Zo hQ9
     ·have g2:¬((out.length:Int)<1):=by omega
      have g3:¬((60:Int)<out.length):=Zo;go_wp2_with (refine wpList_store_row rfl 136 (.tmp 2) (.tmp 185) rfl w.heap.size (Yd 2 ⟨out.toArray⟩ at_) rfl rfl 136 zTok hQ9.tok (Yb _ rfl) rfl (YR _ _ _) ?_);refine bodyPost_ret (v:=.tuple #[.agg (Yd 2 ⟨out.toArray⟩ at_),.nilIface]) ?_ rfl ?_
      ·exact Ya rfl _ _ w.heap.size 136 (Yd 2 ⟨out.toArray⟩ at_) (0,0) _ _ rfl rfl (setRow_heap _ _ _ _ _ _ (by exact hQ9.tok)) Tryz.underlying136 rfl (Yb _ rfl)
      exact YoL HX.out H39.out Zo hQ9 hvl hbs
  ·have nm:(bt s i != mk)=true:=by simpa using hm
   have HM:=Zh hm;clear hm;by_cases hge:i<s.size
   ·have g1:decide (
     s.size<=i)=false:=by simp; omega
    by_cases h32:bt s i<32
    ·have HX:Hid (R= .bad):=Yg5 hR' HM.out (.inr (.inl h32));go_wp2_with fail;refine hN.mono ?_;rintro e w1 ⟨rfl,k1,rfl⟩;go_wp2_with fail;refine(Yig b s i v _ Zo (hQ.drewN k1).scan.row).mono ?_;rintro e w1 ⟨rfl,k2,rfl⟩;go_wp2_with fail;go_quiet (fail)
     go_wp2_with (refine wpList_store_row rfl 136 (.tmp 2) (.tmp 72) rfl w.heap.size zTok rfl rfl 136 zTok hQ.tok (Yb _ rfl) rfl Jc ?_);refine bodyPost_ret (v:=.tuple #[.agg zTok,.iface 190 (.pointer (some ⟨w.heap.size+1,0,none⟩))]) ?_ rfl ?_
     ·exact Ya rfl _ _ w.heap.size 136 zTok (0,0) _ _ rfl rfl (setRow_heap _ _ _ _ _ _ (by exact hQ.tok)) Tryz.underlying136 rfl (Yb _ rfl)
     exact YaN (HX.out) (hQ.drewN _)
    ·by_cases h126:126<bt s i
     ·have HX:Hid (R= .bad):=Yg5 hR' HM.out (.inr (.inr h126));go_wp2_with fail;refine hN.mono ?_;rintro e w1 ⟨rfl,k1,rfl⟩;go_wp2_with fail;refine(Yig b s i v _ Zo (hQ.drewN k1).scan.row).mono ?_;rintro e w1 ⟨rfl,k2,rfl⟩;go_wp2_with fail;go_quiet (fail)
      go_wp2_with (refine wpList_store_row rfl 136 (.tmp 2) (.tmp 72) rfl w.heap.size zTok rfl rfl 136 zTok hQ.tok (Yb _ rfl) rfl Jc ?_);refine bodyPost_ret (v:=.tuple #[.agg zTok,.iface 190 (.pointer (some ⟨w.heap.size+1,0,none⟩))]) ?_ rfl ?_
      ·exact Ya rfl _ _ w.heap.size 136 zTok (0,0) _ _ rfl rfl (setRow_heap _ _ _ _ _ _ (by exact hQ.tok)) Tryz.underlying136 rfl (Yb _ rfl)
      exact YaN (HX.out) (hQ.drewN _)
     ·have HNB:Hid (¬(s.size<=i\/bt s i<32\/126<bt s i)):=by show ¬_; omega
      by_cases h92:bt s i=92
      ·have n92:(
        bt s i != 92)=false:=by simpa using h92
       have H92:=Zh h92;clear h92;obtain⟨i0,hi0,hz0,hz1,hz2⟩:=info_parts Yix;go_wp2_with fail;refine hN.mono ?_;rintro e w1 ⟨rfl,k1,rfl⟩;go_wp2_with fail;refine(Yig b s i v _ Zo (hQ.drewN k1).scan.row).mono ?_;rintro e w1 ⟨rfl,k2,rfl⟩;go_wp2_with fail;go_quiet (fail)
       go_wp2_with fail;generalize hW3:World.setCell _ _ _=W3;have hQ3:QuoW B b s at_ mk sp v w (i+1) out vv W3:=by rw[<-hW3]; exact(hQ.drewN _).set hbs (i+1) Zo Zo
       clear hW3 hc0 hc1 hf1 hN nm n92 b0 b1 h32 h126 g1;have hc0:=hQ3.scan.row.c0;have hc1:=hQ3.scan.row.c1;have hf1:=hQ3.scan.row.frozen 1;have hown:=hQ3.own;have hsz:w.heap.size+1+1+1<=W3.heap.size:=by obtain⟨q,_⟩:=Zg hQ3.mp; omega
       have hbf:=YnI mk (bt s (i+1));refine(Yig b s (i+1) v _ Zo hQ3.scan.row).mono ?_;rintro e w1 ⟨rfl,k3,rfl⟩;cases he:escF mk (bt s (i+1)) with
       |
        some m=>
        have HE:=Zh he;rw[he] at hbf;obtain⟨hne,hm0,hm1⟩:=Yqu he;clear he;have hi2:i+1<s.size:=by
         rcases Nat.lt_or_ge (i+1) s.size with q | q
         ·exact q
         ·exact absurd (Jp q) hne
        have hl2:((i:Int)+1<(s.size:Int)):=Zo;clear hne;go_wp2_with (refine Yl rfl (.tmp 91) (.tmp 92) 259 rfl 5 5 Tryz.underlying259 Tryz.underlying5 Ya8 (w.heap.size+1+1) (escs mk) hQ3.mp (bt s (i+1)) rfl rfl ?_);go_quiet (fail)
        go_wp2_with (at_builtin; refine wpList_append_lies _ Zr _ _ _ Zr (w.heap.size+1+1+1) 5 i0 _ 1 1 Tryz.underlying129 hi0 hz0 hz1 hz2 Zr Zo _ out.length (Lib.byteCells out) Zr (hown.alloc _) ⟨W3.heap.size,0,none⟩ 1 1 [.int .u8 m] Zr Zr (World.news_of_block (cs:=#[.int .u8 m]) (t:=5) (fr:=(0,0)) (heap_alloc_new _ _)) (by simp[Value.oneCell']) Zo (by unfold maxLen; omega) Zo (by simp; omega) _ Zr ?_; intro gg cap w3 hown1 hgrow hat hlt9; have hP:=QuoW.push (hQ3.drewN _) hbs Zo m.toNat.toUInt8 (Ypd hm0 hm1) hown1 hgrow; have q1:=hP.scan.row.c1; have q2:=hP.scan.row.frozen 1; clear hgrow hown1);have hP2:=hP.set hbs (i+2) Zo Zo;go_roundw
        case rel=>exact⟨i+2,_,n',_,rfl,hP2,by omega,by omega,Yjf hR' HM.out HNB.out H92.out HE.out,by simp; omega⟩
        case measure=>exact YdE hQ.scan.row hP2.scan.row Zo hle
       |
        none=>
        have HE:=Zh he;rw[he] at hbf;clear he;by_cases h34:mk=34
        ·have HX:Hid (R= .bad):=Yb3 hR' HM.out HNB.out H92.out HE.out (.inl h34);have n34:(mk==34)=true:=beq_iff_eq.2 h34;clear h34;go_wp2_with (refine Yl rfl (.tmp 91) (.tmp 92) 259 rfl 5 5 Tryz.underlying259 Tryz.underlying5 Ya8 (w.heap.size+1+1) (escs mk) hQ3.mp (bt s (i+1)) rfl rfl ?_);go_quiet (fail)
         go_wp2_with fail;refine(Ye3 b s (i+1) v _ Zo (hQ3.drewN _).scan.row).mono ?_;rintro e w1 ⟨rfl,k4,rfl⟩;go_wp2_with fail;refine(YB (bt s (i+2)) (Yan _ _) (YaU _ _) _).mono ?_;rintro e w1 ⟨rfl,rfl⟩;go_wp2_with fail;refine(YmZ b s (i+1) v _ Zo (hQ3.drewN _).scan.row).mono ?_;rintro e w1 ⟨rfl,k5,rfl⟩;go_wp2_with fail;refine(YB (bt s (i+3)) (Yan _ _) (YaU _ _) _).mono ?_;rintro e w1 ⟨rfl,rfl⟩;go_wp2_with (refine wpList_store_row rfl 136 (.tmp 2) (.tmp 139) rfl w.heap.size zTok rfl rfl 136 zTok hQ3.tok (Yb _ rfl) rfl Jc ?_);refine bodyPost_ret (v:=.tuple #[.agg zTok,.iface 190 (.pointer (some ⟨w.heap.size+1,0,none⟩))]) ?_ rfl ?_
         ·exact Ya rfl _ _ w.heap.size 136 zTok (0,0) _ _ rfl rfl (setRow_heap _ _ _ _ _ _ (by exact hQ3.tok)) Tryz.underlying136 rfl (Yb _ rfl)
         exact YaN HX.out (hQ3.drewN _)
        ·have n34:(mk==34)=false:=beq_eq_false_iff_ne.2 h34;have H34:=Zh h34;clear h34;by_cases h120:bt s (i+1)=120
         ·have n120:(bt s (i+1) != 120)=false:=by simpa using h120
          have H120:=Zh h120;clear h120;cases ha:hexv (bt s (i+2)) with
          |
           none=>
           have HX:Hid (R= .bad):=Yb3 hR' HM.out HNB.out H92.out HE.out (.inr (.inr (.inl ha)));go_wp2_with (refine Yl rfl (.tmp 91) (.tmp 92) 259 rfl 5 5 Tryz.underlying259 Tryz.underlying5 Ya8 (w.heap.size+1+1) (escs mk) hQ3.mp (bt s (i+1)) rfl rfl ?_);go_quiet (fail)
           go_wp2_with fail;refine(Ye3 b s (i+1) v _ Zo (hQ3.drewN _).scan.row).mono ?_;rintro e w1 ⟨rfl,k4,rfl⟩;go_wp2_with fail;refine(YB (bt s (i+2)) (Yan _ _) (YaU _ _) _).mono ?_;rintro e w1 ⟨rfl,rfl⟩;go_wp2_with fail;refine(YmZ b s (i+1) v _ Zo (hQ3.drewN _).scan.row).mono ?_;rintro e w1 ⟨rfl,k5,rfl⟩;go_wp2_with fail;refine(YB (bt s (i+3)) (Yan _ _) (YaU _ _) _).mono ?_;rintro e w1 ⟨rfl,rfl⟩;go_wp2_with (refine wpList_store_row rfl 136 (.tmp 2) (.tmp 139) rfl w.heap.size zTok rfl rfl 136 zTok hQ3.tok (Yb _ rfl) rfl Jc ?_);refine bodyPost_ret (v:=.tuple #[.agg zTok,.iface 190 (.pointer (some ⟨w.heap.size+1,0,none⟩))]) ?_ rfl ?_
           ·exact Ya rfl _ _ w.heap.size 136 zTok (0,0) _ _ rfl rfl (setRow_heap _ _ _ _ _ _ (by exact hQ3.tok)) Tryz.underlying136 rfl (Yb _ rfl)
           exact YaN HX.out (hQ3.drewN _)
          |
           some a=>
           have HA:=Zh ha;obtain⟨a0,a1⟩:=Ynz ha;cases hb:hexv (bt s (i+3)) with
           |
            none=>
            have HX:Hid (R= .bad):=Yb3 hR' HM.out HNB.out H92.out HE.out (.inr (.inr (.inr hb)));go_wp2_with (refine Yl rfl (.tmp 91) (.tmp 92) 259 rfl 5 5 Tryz.underlying259 Tryz.underlying5 Ya8 (w.heap.size+1+1) (escs mk) hQ3.mp (bt s (i+1)) rfl rfl ?_);go_quiet (fail)
            go_wp2_with fail;refine(Ye3 b s (i+1) v _ Zo (hQ3.drewN _).scan.row).mono ?_;rintro e w1 ⟨rfl,k4,rfl⟩;go_wp2_with fail;refine(YB (bt s (i+2)) (Yan _ _) (YaU _ _) _).mono ?_;rintro e w1 ⟨rfl,rfl⟩;go_wp2_with fail;refine(YmZ b s (i+1) v _ Zo (hQ3.drewN _).scan.row).mono ?_;rintro e w1 ⟨rfl,k5,rfl⟩;go_wp2_with fail;refine(YB (bt s (i+3)) (Yan _ _) (YaU _ _) _).mono ?_;rintro e w1 ⟨rfl,rfl⟩;go_wp2_with (refine wpList_store_row rfl 136 (.tmp 2) (.tmp 139) rfl w.heap.size zTok rfl rfl 136 zTok hQ3.tok (Yb _ rfl) rfl Jc ?_);refine bodyPost_ret (v:=.tuple #[.agg zTok,.iface 190 (.pointer (some ⟨w.heap.size+1,0,none⟩))]) ?_ rfl ?_
            ·exact Ya rfl _ _ w.heap.size 136 zTok (0,0) _ _ rfl rfl (setRow_heap _ _ _ _ _ _ (by exact hQ3.tok)) Tryz.underlying136 rfl (Yb _ rfl)
            exact YaN HX.out (hQ3.drewN _)
           |
            some c=>
            have HC:=Zh hb;obtain⟨c0,c1⟩:=Ynz hb;go_wp2_with (refine Yl rfl (.tmp 91) (.tmp 92) 259 rfl 5 5 Tryz.underlying259 Tryz.underlying5 Ya8 (w.heap.size+1+1) (escs mk) hQ3.mp (bt s (i+1)) rfl rfl ?_);go_quiet (fail)
            go_wp2_with fail;refine(Ye3 b s (i+1) v _ Zo (hQ3.drewN _).scan.row).mono ?_;rintro e w1 ⟨rfl,k4,rfl⟩;go_wp2_with fail;refine(YB (bt s (i+2)) (Yan _ _) (YaU _ _) _).mono ?_;rintro e w1 ⟨rfl,rfl⟩;go_wp2_with fail;refine(YmZ b s (i+1) v _ Zo (hQ3.drewN _).scan.row).mono ?_;rintro e w1 ⟨rfl,k5,rfl⟩;go_wp2_with fail;refine(YB (bt s (i+3)) (Yan _ _) (YaU _ _) _).mono ?_;rintro e w1 ⟨rfl,rfl⟩;have hor:=YqR a0 a1 c0 c1;have hi4:i+3<s.size:=by
             rcases Nat.lt_or_ge (i+3) s.size with q | q
             ·exact q
             ·exact absurd (Jp q) (Yqo HC.out)
            go_wp2_with (at_builtin; refine wpList_append_lies _ Zr _ _ _ Zr (w.heap.size+1+1+1) 5 i0 _ 1 1 Tryz.underlying129 hi0 hz0 hz1 hz2 Zr Zo _ out.length (Lib.byteCells out) Zr (hown.alloc _) ⟨W3.heap.size,0,none⟩ 1 1 [.int .u8 (hex2 a c).toNat] Zr Zr (World.news_of_block (cs:=#[.int .u8 (hex2 a c).toNat]) (t:=5) (fr:=(0,0)) (heap_alloc_new _ _)) (by simp[Value.oneCell']) Zo (by unfold maxLen; omega) Zo (by simp; omega) _ Zr ?_; intro gg cap w3 hown1 hgrow hat hlt9; have hP:=QuoW.push (hQ3.drewN _) hbs Zo (hex2 a c) rfl hown1 hgrow; have q1:=hP.scan.row.c1; have q2:=hP.scan.row.frozen 1; clear hgrow hown1);have hP2:=(hP.set hbs (i+3) Zo Zo).set hbs (i+4) Zo Zo;go_roundw
            case rel=>exact⟨i+4,_,n',_,rfl,hP2,by omega,by omega,YmK hR' HM.out HNB.out H92.out HE.out H34.out H120.out HA.out HC.out,by simp; omega⟩
            case measure=>exact YdE hQ.scan.row hP2.scan.row Zo hle
         ·have HX:Hid (R= .bad):=Yb3 hR' HM.out HNB.out H92.out HE.out (.inr (.inl h120));have n120:(bt s (i+1) != 120)=true:=by simpa using h120
          clear h120;go_wp2_with (refine Yl rfl (.tmp 91) (.tmp 92) 259 rfl 5 5 Tryz.underlying259 Tryz.underlying5 Ya8 (w.heap.size+1+1) (escs mk) hQ3.mp (bt s (i+1)) rfl rfl ?_);go_quiet (fail)
          go_wp2_with fail;refine(Ye3 b s (i+1) v _ Zo (hQ3.drewN _).scan.row).mono ?_;rintro e w1 ⟨rfl,k4,rfl⟩;go_wp2_with fail;refine(YB (bt s (i+2)) (Yan _ _) (YaU _ _) _).mono ?_;rintro e w1 ⟨rfl,rfl⟩;go_wp2_with fail;refine(YmZ b s (i+1) v _ Zo (hQ3.drewN _).scan.row).mono ?_;rintro e w1 ⟨rfl,k5,rfl⟩;go_wp2_with fail;refine(YB (bt s (i+3)) (Yan _ _) (YaU _ _) _).mono ?_;rintro e w1 ⟨rfl,rfl⟩;go_wp2_with (refine wpList_store_row rfl 136 (.tmp 2) (.tmp 139) rfl w.heap.size zTok rfl rfl 136 zTok hQ3.tok (Yb _ rfl) rfl Jc ?_);refine bodyPost_ret (v:=.tuple #[.agg zTok,.iface 190 (.pointer (some ⟨w.heap.size+1,0,none⟩))]) ?_ rfl ?_
          ·exact Ya rfl _ _ w.heap.size 136 zTok (0,0) _ _ rfl rfl (setRow_heap _ _ _ _ _ _ (by exact hQ3.tok)) Tryz.underlying136 rfl (Yb _ rfl)
          exact YaN HX.out (hQ3.drewN _)
      ·have n92:(bt s i != 92)=true:=by simpa using h92
       have H92:=Zh h92;clear h92;obtain⟨i0,hi0,hz0,hz1,hz2⟩:=info_parts Yix;have hown:=hQ.own;have hsz:w.heap.size+1+1+1<=wr.heap.size:=by obtain⟨q,_⟩:=Zg hQ.mp; omega
       go_wp2_with fail;refine hN.mono ?_;rintro e w1 ⟨rfl,k1,rfl⟩;go_wp2_with fail;refine(Yig b s i v _ Zo (hQ.drewN k1).scan.row).mono ?_;rintro e w1 ⟨rfl,k2,rfl⟩;go_wp2_with fail;go_quiet (fail)
       go_wp2_with (at_builtin; refine wpList_append_lies _ Zr _ _ _ Zr (w.heap.size+1+1+1) 5 i0 _ 1 1 Tryz.underlying129 hi0 hz0 hz1 hz2 Zr Zo _ out.length (Lib.byteCells out) Zr (hown.alloc _) ⟨wr.heap.size,0,none⟩ 1 1 [.int .u8 (bt s i)] Zr Zr (World.news_of_block (cs:=#[.int .u8 (bt s i)]) (t:=5) (fr:=(0,0)) (heap_alloc_new _ _)) (by simp[Value.oneCell']) Zo (by unfold maxLen; omega) Zo (by simp; omega) _ Zr ?_; intro gg cap w3 hown1 hgrow hat hlt9; have hP:=QuoW.push (hQ.drewN _) hbs hfew (bu s i) (YaE s i) hown1 hgrow; have q1:=hP.scan.row.c1; have q2:=hP.scan.row.frozen 1; clear hgrow hown1);have hP2:=hP.set hbs (i+1) Zo Zo;go_roundw
       case rel=>exact⟨i+1,_,n',_,rfl,hP2,by omega,by omega,YeY hR' HM.out HNB.out H92.out,by simp; omega⟩
       case measure=>exact YdE hQ.scan.row hP2.scan.row Zo hle
   ·have g1:decide (s.size<=i)=true:=by simp; omega
    have HX:Hid (R= .bad):=Yg5 hR' HM.out (.inl Zo);go_wp2_with fail;refine hN.mono ?_;rintro e w1 ⟨rfl,k1,rfl⟩;go_wp2_with fail;refine(Yig b s i v _ Zo (hQ.drewN k1).scan.row).mono ?_;rintro e w1 ⟨rfl,k2,rfl⟩;go_wp2_with fail;go_quiet (fail)
    go_wp2_with (refine wpList_store_row rfl 136 (.tmp 2) (.tmp 72) rfl w.heap.size zTok rfl rfl 136 zTok hQ.tok (Yb _ rfl) rfl Jc ?_);refine bodyPost_ret (v:=.tuple #[.agg zTok,.iface 190 (.pointer (some ⟨w.heap.size+1,0,none⟩))]) ?_ rfl ?_
    ·exact Ya rfl _ _ w.heap.size 136 zTok (0,0) _ _ rfl rfl (setRow_heap _ _ _ _ _ _ (by exact hQ.tok)) Tryz.underlying136 rfl (Yb _ rfl)
    exact YaN (HX.out) (hQ.drewN _)
end Go.Proofs.YteamjdmhdfjopaaGreatDoor
