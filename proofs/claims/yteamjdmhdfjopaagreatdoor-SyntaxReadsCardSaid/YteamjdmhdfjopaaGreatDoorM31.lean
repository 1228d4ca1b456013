/- A part of the proof; it holds the texts Oxp (names and blanks shortened). -/
import Derived.Test.YteamjdmhdfjopaaGreatDoorM29
import Derived.Test.YteamjdmhdfjopaaGreatDoorM30
namespace Go.Proofs.YteamjdmhdfjopaaGreatDoor
open Go.RowKit
set_option maxRecDepth 100000
set_option maxHeartbeats 8000000
set_option linter.unusedVariables false
set_option linter.unusedSimpArgs false
theorem YaP (w:World)(a b:Obj):((w.alloc a).alloc b).heap[w.heap.size]? =some a/\((w.alloc a).alloc b).heap[w.heap.size+1]? =some b/\Below w.heap.size w ((w.alloc a).alloc b)/\((w.alloc a).alloc b).heap.size=w.heap.size+2:=by
 refine⟨?_,?_,(below_alloc1 w a).alloc Zs b,by simp⟩
 ·exact(Below.heap_alloc _ _ _ Zs).trans (heap_alloc_new w a)
 ·have:=heap_alloc_new (w.alloc a) b;simpa using this
theorem Y8 {w W:World}(hW:(w.alloc (.cells rTok 163)).alloc (.cells (Yf 0 0) 211)=W):W.heap[w.heap.size]? =some (.cells rTok 163 (0,0))/\W.heap[w.heap.size+1]? =some (.cells (Yf 0 0) 211 (0,0))/\Hid (Below w.heap.size w W)/\w.heap.size+2<=W.heap.size:=by
 subst hW;exact⟨(YaP w _ _).1,(YaP w _ _).2.1,Zh (YaP w _ _).2.2.1,by rw[(YaP w _ _).2.2.2]; omega⟩
theorem YY {w W W':World}{a b:Obj}(hb:Below W.heap.size W W')(hZ:W.heap[w.heap.size]? =some a)(hE:W.heap[w.heap.size+1]? =some b)(HB:Hid (Below w.heap.size w W))(hwz:w.heap.size+2<=W.heap.size):W'.heap[w.heap.size]? =some a/\W'.heap[w.heap.size+1]? =some b/\Hid (Below w.heap.size w W')/\w.heap.size+2<=W'.heap.size:=
 ⟨(hb.block _ Zo).trans hZ,(hb.block _ Zo).trans hE,Zh (HB.out.trans (hb.mono Zo)),by have:=hb.size; omega⟩
theorem Yay {ops:Array Oper}{rest:List Oper}{o:Oper}{a:Act}{w W:World}{Q:Exit->Act->World->Prop}{y:Tmp}(hgd:o.guard=none)(ho:o.op= .store 163 (.tmp 4) (.tmp y))(c:Array Value)(hx:a.eval (.tmp 4)= .pointer (some ⟨w.heap.size,0,none⟩))(hy:a.eval (.tmp y)= .agg c)
 (hZ:W.heap[w.heap.size]? =some (.cells rTok 163 (0,0)))(hs:c.size=3)(hc:c.all (·.oneCell')=true)(h:wpList Tryz.prog ops Q rest (a.put o.dst undef) (W.setRow w.heap.size c)):wpList Tryz.prog ops Q (o::rest) a W:=
 wpList_store_row hgd 163 _ _ ho _ c hx hy 163 rTok hZ (Yas _ hs) (by rw[hs]; rfl) hc h
theorem Yaz {ops:Array Oper}{rest:List Oper}{o:Oper}{a:Act}{w W:World}{Q:Exit->Act->World->Prop}{y:Tmp}{c0:Array Value}(hgd:o.guard=none)(ho:o.op= .store 211 (.tmp 6) (.tmp y))(c:Array Value)(hx:a.eval (.tmp 6)= .pointer (some ⟨w.heap.size+1,0,none⟩))(hy:a.eval (.tmp y)= .agg c)
 (hE:W.heap[w.heap.size+1]? =some (.cells (Yf 0 0) 211 (0,0)))(hs:c.size=2)(hc:c.all (·.oneCell')=true)(h:wpList Tryz.prog ops Q rest (a.put o.dst undef) ((W.setRow w.heap.size c0).setRow (w.heap.size+1) c)):wpList Tryz.prog ops Q (o::rest) a (W.setRow w.heap.size c0):=
 wpList_store_row hgd 211 _ _ ho _ c hx hy 211 (Yf 0 0) ((setRow_other _ _ _ _ Zo).trans hE) (Jt _ hs) (by rw[hs]; rfl) hc h
theorem YbH {ops:Array Oper}{rest:List Oper}{o:Oper}{a:Act}{w W:World}{Q:Exit->Act->World->Prop}{y:Tmp}{i:Nat}{R:TokR}(hgd:o.guard=none)(ho:o.op= .store 163 (.tmp 4) (.tmp y))(hx:a.eval (.tmp 4)= .pointer (some ⟨w.heap.size,0,none⟩))(hy:a.eval (.tmp y)= .agg (YgP i R))
 (hZ:W.heap[w.heap.size]? =some (.cells rTok 163 (0,0)))(h:wpList Tryz.prog ops Q rest (a.put o.dst undef) (W.setRow w.heap.size (YgP i R))):wpList Tryz.prog ops Q (o::rest) a W:=
 Yay hgd ho _ hx hy hZ (Yfr _ _) (YhQ _ _) h
theorem YbI {ops:Array Oper}{rest:List Oper}{o:Oper}{a:Act}{w W:World}{Q:Exit->Act->World->Prop}{y:Tmp}{c0:Array Value}{R:TokR}(hgd:o.guard=none)(ho:o.op= .store 211 (.tmp 6) (.tmp y))(hx:a.eval (.tmp 6)= .pointer (some ⟨w.heap.size+1,0,none⟩))(hy:a.eval (.tmp y)= .agg (errOf R))
 (hE:W.heap[w.heap.size+1]? =some (.cells (Yf 0 0) 211 (0,0)))(h:wpList Tryz.prog ops Q rest (a.put o.dst undef) ((W.setRow w.heap.size c0).setRow (w.heap.size+1) (errOf R))):wpList Tryz.prog ops Q (o::rest) a (W.setRow w.heap.size c0):=
 Yaz hgd ho _ hx hy hE (YfS _) (Yif _) h
theorem Jh {fn:Func}{p q r:Tmp}{a:Act}{w W:World}{i:Nat}{R:TokR}{c1 c2:Array Value}{x:Value}(h:fn.results=#[.cell p 163,.tmp q,.cell r 211])(hp:a.tmps.getD p undef= .pointer (some ⟨w.heap.size,0,none⟩))(hq:a.tmps.getD q undef=x)(hr:a.tmps.getD r undef= .pointer (some ⟨w.heap.size+1,0,none⟩))(hd:a.defers=[])
 (hZ:W.heap[w.heap.size]? =some (.cells rTok 163 (0,0)))(hE:W.heap[w.heap.size+1]? =some (.cells (Yf 0 0) 211 (0,0)))(HB:Hid (Below w.heap.size w W))(s1:c1.size=3)(s2:c2.size=2)(hv:oneV i R= .tuple #[.agg c1,x,.agg c2]):
 bodyPost Tryz.prog fn (fun e w'=>e= .returned (oneV i R)/\Below w.heap.size w w') .ret a ((W.setRow w.heap.size c1).setRow (w.heap.size+1) c2):=by
 obtain⟨f1,f2⟩:=Yc3 (W:=W) (p:=w.heap.size) (q:=w.heap.size+1) Zo (c1:=c1) (c2:=c2) hZ hE;refine bodyPost_ret (v:=.tuple #[.agg c1,x,.agg c2]) ?_ hd ⟨by rw[hv],Ybi HB.out Zo Zo _ _⟩;exact YX h _ _ _ _ 163 211 c1 c2 (0,0) (0,0) _ _ _ hp hq hr f1 f2 Tryz.underlying163 rfl (Yas _ s1) Tryz.underlying211 rfl (Jt _ s2)
theorem YO {fn:Func}{p q r:Tmp}{a:Act}{w W:World}{i:Nat}{R:TokR}(h:fn.results=#[.cell p 163,.tmp q,.cell r 211])(hp:a.tmps.getD p undef= .pointer (some ⟨w.heap.size,0,none⟩))(hq:a.tmps.getD q undef= .int .i64 (YmU R))(hr:a.tmps.getD r undef= .pointer (some ⟨w.heap.size+1,0,none⟩))(hd:a.defers=[])
 (hZ:W.heap[w.heap.size]? =some (.cells rTok 163 (0,0)))(hE:W.heap[w.heap.size+1]? =some (.cells (Yf 0 0) 211 (0,0)))(HB:Hid (Below w.heap.size w W)):
 bodyPost Tryz.prog fn (fun e w'=>e= .returned (oneV i R)/\Below w.heap.size w w') .ret a ((W.setRow w.heap.size (YgP i R)).setRow (w.heap.size+1) (errOf R)):=
 Jh h hp hq hr hd hZ hE HB (Yfr _ _) (YfS _) rfl
theorem YeJ (s:ByteArray)(mark:Int):∀(n i:Nat) (out out':List UInt8) (fin:Nat),quoN s mark n i out= .ok out' fin->out'.length+i<=out.length+fin
 |0,i,out,out',fin,h=>by simp[quoN] at h
 |
  n+1,i,out,out',fin,h=>by
  unfold quoN at h;split at h
  ·cases h; omega
  ·split at h
   ·cases h
   ·split at h
    ·have:=YeJ s mark n _ _ _ _ h; simp at this; omega
    ·split at h
     ·have:=YeJ s mark n _ _ _ _ h; simp at this; omega
     ·split at h
      ·cases h
      ·split at h
       ·have:=YeJ s mark n _ _ _ _ h; simp at this; omega
       ·cases h
theorem YkT (s:ByteArray)(n i:Nat)(out':List UInt8)(fin:Nat)(h:quoN s 34 n i []= .ok out' fin):out'.length<=s.size:=by
 have h1:=YeJ s 34 n i [] out' fin h;have h2:=YfG s 34 Zd n i [] out' fin h;simp at h1; omega
end Go.Proofs.YteamjdmhdfjopaaGreatDoor
