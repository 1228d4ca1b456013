/- token.escapes: what a byte behind a backslash means. -/
import Derived.Test.YtmapaagdaojpaaaGreatDoorNames
import Derived.Test.YtmapaagdaojpaaaGreatDoorWx
namespace Go.Proofs.YtmapaagdaojpaaaGreatDoor
open Go.RowKit

def escs (mark : Int) : List (Int × Int) := if mark = 34 then [(92, 92), (34, 34)] else [(92, 92), (39, 39), (110, 10), (116, 9)]

theorem map_empty : (Obj.map #[] 0) = mapObj [] := rfl

set_option maxHeartbeats 400000 in
set_option maxRecDepth 100000 in
theorem escapes_any (mark : Int) (w : World) :
    Calls Tryz.prog 66 #[.int .u8 mark] w fun e w' => e = .returned (.map (some w.heap.size)) ∧ w' = w.alloc (mapObj (escs mark)) := by
  have hmm := @run_makeMap Tryz.prog
  by_cases h : mark = 34
  · subst h
    have he : escs 34 = [(92, 92), (34, 34)] := rfl
    have HE := Lib.hid he
    clear he
    go_enter Tryz.func66, Tryz.ntmps66
    go_wp2_with (first
      | (refine wpList_insert_bytes (by rfl) _ _ _ 104 (by rfl) 5 5 Tryz.underlying104 Tryz.underlying5 [] 92 92 (by rfl) (by rfl) (by rfl) (by rfl) ?_)
      | (refine wpList_insert_bytes (by rfl) _ _ _ 104 (by rfl) 5 5 Tryz.underlying104 Tryz.underlying5 [(92, 92)] 34 34 (by rfl) (by rfl) (by rfl) (by decide) ?_))
    go_ret
    exact ⟨rfl, by rw [HE.out]⟩
  · have he : escs mark = [(92, 92), (39, 39), (110, 10), (116, 9)] := by simp [escs, h]
    have HE := Lib.hid he
    have hb : (mark == 34) = false := beq_eq_false_iff_ne.2 h
    clear he h
    go_enter Tryz.func66, Tryz.ntmps66
    go_wp2_with (first
      | (refine wpList_insert_bytes (by rfl) _ _ _ 104 (by rfl) 5 5 Tryz.underlying104 Tryz.underlying5 [] 92 92 (by rfl) (by rfl) (by rfl) (by decide) ?_)
      | (refine wpList_insert_bytes (by rfl) _ _ _ 104 (by rfl) 5 5 Tryz.underlying104 Tryz.underlying5 [(92, 92)] 39 39 (by rfl) (by rfl) (by rfl) (by decide) ?_)
      | (refine wpList_insert_bytes (by rfl) _ _ _ 104 (by rfl) 5 5 Tryz.underlying104 Tryz.underlying5 [(92, 92), (39, 39)] 110 10 (by rfl) (by rfl) (by rfl) (by decide) ?_)
      | (refine wpList_insert_bytes (by rfl) _ _ _ 104 (by rfl) 5 5 Tryz.underlying104 Tryz.underlying5 [(92, 92), (39, 39), (110, 10)] 116 9 (by rfl) (by rfl) (by rfl) (by decide) ?_))
    go_ret
    exact ⟨rfl, by rw [HE.out]⟩
end Go.Proofs.YtmapaagdaojpaaaGreatDoor
