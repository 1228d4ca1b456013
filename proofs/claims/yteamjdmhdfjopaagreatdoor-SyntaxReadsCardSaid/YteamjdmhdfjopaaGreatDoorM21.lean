/- A part of the proof; it holds the texts Tokw (names and blanks shortened). -/
import Derived.Test.YteamjdmhdfjopaaGreatDoorM20
import Derived.Test.YteamjdmhdfjopaaGreatDoorM11
import Derived.Test.YteamjdmhdfjopaaGreatDoorM1
namespace Go.Proofs.YteamjdmhdfjopaaGreatDoor
open Go.RowKit
set_option maxRecDepth 100000
set_option maxHeartbeats 8000000
set_option linter.unusedVariables false
set_option linter.unusedSimpArgs false
structure TokW (B b:Nat)(s:ByteArray)(fr i:Nat)(sp:List (Nat×Nat))(v:Value)(w wr:World)(t:Array Value):Prop where
 scan:Yp B b s i sp v wr
 kept:Yl b v w wr
 nm:wr.heap[w.heap.size]? =some (.cells #[.pointer (some ⟨b,0,none⟩)] 123 (0,0))
 res:wr.heap[w.heap.size+1]? =some (.cells zTok 136 (0,0))
 pl:wr.heap[w.heap.size+2]? =some (.cells #[.int .i64 fr] 3 (0,0))
 tok:wr.heap[w.heap.size+3]? =some (.cells t 136 (0,0))
theorem Yjd {B b:Nat}{s:ByteArray}{at_:Nat}{sp:List (Nat×Nat)}{v:Value}{w W:World}(hw:Yp B b s at_ sp v w)
 (hW:((((w.alloc (.cells #[.pointer (some ⟨b,0,none⟩)] 123)).alloc (.cells zTok 136)).alloc (.cells #[.int .i64 at_] 3)).alloc (.cells zTok 136))=W):
 TokW B b s at_ at_ sp v w W zTok/\W.heap.size=w.heap.size+4:=by
 subst hW;have h1:=below_alloc1 w (.cells #[.pointer (some ⟨b,0,none⟩)] 123);have n1:=heap_alloc_new w (.cells #[.pointer (some ⟨b,0,none⟩)] 123);have z1:(w.alloc (.cells #[.pointer (some ⟨b,0,none⟩)] 123)).heap.size=w.heap.size+1:=Zs;generalize w.alloc _=W1 at h1 n1 z1⊢;have h2:=h1.trans ((below_alloc1 W1 (.cells zTok 136)).mono Zo);have n2:=heap_alloc_new W1 (.cells zTok 136);have m1:=(Below.heap_alloc W1 (.cells zTok 136) w.heap.size Zo).trans n1;have z2:(W1.alloc (.cells zTok 136)).heap.size=w.heap.size+2:=by simp[z1]
 generalize W1.alloc _=W2 at h2 n2 m1 z2⊢;rw[z1] at n2;have h3:=h2.trans ((below_alloc1 W2 (.cells #[.int .i64 at_] 3)).mono Zo);have n3:=heap_alloc_new W2 (.cells #[.int .i64 at_] 3);have m1:=(Below.heap_alloc W2 (.cells #[.int .i64 at_] 3) w.heap.size Zo).trans m1;have m2:=(Below.heap_alloc W2 (.cells #[.int .i64 at_] 3) (w.heap.size+1) Zo).trans n2;have z3:(W2.alloc (.cells #[.int .i64 at_] 3)).heap.size=w.heap.size+3:=by simp[z2]
 generalize W2.alloc _=W3 at h3 n3 m1 m2 z3⊢;rw[z2] at n3;have h4:=h3.trans ((below_alloc1 W3 (.cells zTok 136)).mono Zo);have n4:=heap_alloc_new W3 (.cells zTok 136);have m1:=(Below.heap_alloc W3 (.cells zTok 136) w.heap.size Zo).trans m1;have m2:=(Below.heap_alloc W3 (.cells zTok 136) (w.heap.size+1) Zo).trans m2;have m3:=(Below.heap_alloc W3 (.cells zTok 136) (w.heap.size+2) Zo).trans n3;have z4:(W3.alloc (.cells zTok 136)).heap.size=w.heap.size+4:=by simp[z3]
 generalize W3.alloc _=W4 at h4 n4 m1 m2 m3 z4⊢;rw[z3] at n4;exact⟨⟨⟨World.rowIs.of_block hw.row (h4.block _ hw.row.lt),(Keep.of_below (S:=fun _=>False) h4).owns hw.own (fun _ _ q=>q),hw.le,hw.few⟩,Keep.of_below h4,m1,m2,m3,n4⟩,z4⟩
end Go.Proofs.YteamjdmhdfjopaaGreatDoor
