/- token.told: the offset and the code of an error. -/
import Derived.Test.YtmapaagdaojpaaaGreatDoorAs
import Derived.Test.YtmapaagdaojpaaaGreatDoorNames
namespace Go.Proofs.YtmapaagdaojpaaaGreatDoor
open Go.RowKit

/-- The library's variable errors.errorType holds the type error. -/
def ErrT (w : World) : Prop := w.cell? ⟨0, 0, none⟩ = some (.iface 155 (.agg #[.pointer (some ⟨4, 46, none⟩)]))

set_option maxHeartbeats 400000 in
set_option maxRecDepth 100000 in
theorem told_nil (w : World) :
    Calls Tryz.prog 47 #[.nilIface] w fun e w' => e = .returned (.tuple #[.int .i64 0, .int .i64 0]) ∧ Below w.heap.size w w' := by
  go_enter Tryz.func47, Tryz.ntmps47
  go_wp2_with (go_at_call 73; refine (as_nil _ _).mono ?_; rintro e w' ⟨rfl, rfl⟩)
  go_ret2
  exact ⟨rfl, below_alloc1 _ _⟩

set_option maxHeartbeats 800000 in
set_option maxRecDepth 100000 in
theorem told_fault (k : Nat) (a c : Int) (w : World) (hg : ErrT w) (hk : w.heap[k]? = some (.cells #[.int .i64 a, .int .i64 c] 112 (0, 0))) :
    Calls Tryz.prog 47 #[.iface 110 (.pointer (some ⟨k, 0, none⟩))] w fun e w' => e = .returned (.tuple #[.int .i64 a, .int .i64 c]) ∧ Below w.heap.size w w' := by
  have hlt : k < w.heap.size := by obtain ⟨h, _⟩ := Array.getElem?_eq_some_iff.1 hk; exact h
  have h0 : 0 < w.heap.size := World.block_lt_of_cell? w _ hg
  have hc := as_hit ⟨k, 0, none⟩ ⟨w.heap.size, 0, none⟩ (.pointer none) (w.alloc (.cells #[.pointer none] 110))
    ((World.cell?_alloc_lt _ _ ⟨0, 0, none⟩ h0).trans hg) (by simp) (by simp)
  go_enter Tryz.func47, Tryz.ntmps47
  go_wp2_with fail
  refine hc.mono ?_
  rintro e w' ⟨rfl, hw⟩
  have hb : Below w.heap.size w w' := by
    rw [hw]
    exact (((((((Below.refl _ _).alloc (Nat.le_refl _) _).alloc (by simp) _).alloc (by simp; omega) _).alloc (by simp; omega) _).alloc (by simp; omega) _)).setCell (by simp) _
  have hp : w'.cell? ⟨w.heap.size, 0, none⟩ = some (.pointer (some ⟨k, 0, none⟩)) := by
    rw [hw]
    refine World.cell?_setCell_same _ _ _ (u := .pointer none) ?_
    rw [World.cell?_alloc_lt _ _ ⟨w.heap.size, 0, none⟩ (by simp; omega), World.cell?_alloc_lt _ _ ⟨w.heap.size, 0, none⟩ (by simp; omega), World.cell?_alloc_lt _ _ ⟨w.heap.size, 0, none⟩ (by simp; omega), World.cell?_alloc_lt _ _ ⟨w.heap.size, 0, none⟩ (by simp)]
    simp
  have e0 : w'.cell? ⟨k, 0, none⟩ = some (.int .i64 a) := by
    rw [hb.cell (p := ⟨k, 0, none⟩) hlt]; simp [World.cell?, hk]
  have e1 : w'.cell? ⟨k, 1, none⟩ = some (.int .i64 c) := by
    rw [hb.cell (p := ⟨k, 1, none⟩) hlt]; simp [World.cell?, hk]
  clear hw hc
  go_wp2
  go_quiet (fail)
  go_wp2
  go_ret2
  exact ⟨rfl, by repeat (first | exact hb | refine below_drewN ?_ _)⟩
end Go.Proofs.YtmapaagdaojpaaaGreatDoor
