/- A part of the proof; it holds the texts Told (names and blanks shortened). -/
import Derived.Test.YteamjdmhdfjopaaGreatDoorC7
import Derived.Test.YteamjdmhdfjopaaGreatDoorC9
namespace Go.Proofs.YteamjdmhdfjopaaGreatDoor
open Go.RowKit
set_option maxRecDepth 100000
set_option maxHeartbeats 8000000
set_option linter.unusedVariables false
set_option linter.unusedSimpArgs false
def ErrT (w:World):Prop:=w.cell? ⟨3,0,none⟩=some (.iface 303 (.agg #[.pointer (some ⟨7,125,none⟩)]))
theorem YjO (w:World):
 Calls Tryz.prog 78 #[.nilIface] w fun e w'=>e= .returned (.tuple #[.int .i64 0,.int .i64 0])/\Below w.heap.size w w':=by
 go_enter Tryz.func78,Tryz.ntmps78;go_wp2_with (go_at_call 125; refine(as_nil _ _).mono ?_; rintro e w' ⟨rfl,rfl⟩);go_ret2
 exact⟨rfl,below_alloc1 _ _⟩
theorem YfP (k:Nat)(a c:Int)(w:World)(hg:ErrT w)(hk:w.heap[k]? =some (.cells #[.int .i64 a,.int .i64 c] 192 (0,0))):
 Calls Tryz.prog 78 #[.iface 190 (.pointer (some ⟨k,0,none⟩))] w fun e w'=>e= .returned (.tuple #[.int .i64 a,.int .i64 c])/\Below w.heap.size w w':=by
 have hlt:k<w.heap.size:=by obtain⟨h,_⟩:=Zg hk; exact h
 have h0:3<w.heap.size:=World.block_lt_of_cell? w _ hg;have hc:=as_hit ⟨k,0,none⟩ ⟨w.heap.size,0,none⟩ (.pointer none) (w.alloc (.cells #[.pointer none] 190))
  ((World.cell?_alloc_lt _ _ ⟨3,0,none⟩ h0).trans hg) Zs Zs
 go_enter Tryz.func78,Tryz.ntmps78;go_wp2_with fail;refine hc.mono ?_;rintro e w' ⟨rfl,hw⟩;have hb:Below w.heap.size w w':=by
  rw[hw];exact(((((((Below.refl _ _).alloc (Nat.le_refl _) _).alloc Zs _).alloc (by simp; omega) _).alloc (by simp; omega) _).alloc (by simp; omega) _)).setCell Zs _
 have hp:w'.cell? ⟨w.heap.size,0,none⟩=some (.pointer (some ⟨k,0,none⟩)):=by
  rw[hw];refine World.cell?_setCell_same _ _ _ (u:=.pointer none) ?_;rw[World.cell?_alloc_lt _ _ ⟨w.heap.size,0,none⟩ (by simp; omega),World.cell?_alloc_lt _ _ ⟨w.heap.size,0,none⟩ (by simp; omega),World.cell?_alloc_lt _ _ ⟨w.heap.size,0,none⟩ (by simp; omega),World.cell?_alloc_lt _ _ ⟨w.heap.size,0,none⟩ Zs];simp
 have e0:w'.cell? ⟨k,0,none⟩=some (.int .i64 a):=by
  rw[hb.cell (p:=⟨k,0,none⟩) hlt]; simp[World.cell?,hk]
 have e1:w'.cell? ⟨k,1,none⟩=some (.int .i64 c):=by
  rw[hb.cell (p:=⟨k,1,none⟩) hlt]; simp[World.cell?,hk]
 clear hw hc;go_wp2;go_quiet (fail)
 go_wp2;go_ret2
 exact⟨rfl,by repeat (first | exact hb | refine below_drewN ?_ _)⟩
end Go.Proofs.YteamjdmhdfjopaaGreatDoor
