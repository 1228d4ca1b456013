/- token.Check at every token. -/
import Derived.Test.YtmapaagdaojpaaaGreatDoorQx
import Derived.Test.YtmapaagdaojpaaaGreatDoorWd
import Derived.Test.YtmapaagdaojpaaaGreatDoorChk
import Derived.Test.YtmapaagdaojpaaaGreatDoorNum
namespace Go.Proofs.YtmapaagdaojpaaaGreatDoor
open Go.RowKit

set_option maxHeartbeats 1000000 in
set_option maxRecDepth 100000 in
theorem check_sign1 (text : ByteArray) (a : Int) (w : World) (h1 : text.size = 1) :
    Calls Tryz.prog 11 #[.agg #[.int .i64 6, .string text, .int .i64 a]] w fun e w' => e = .returned (.int .i64 (chkB 6 text)) ∧ Below w.heap.size w w' := by
  have hlt : 0 < text.size := by omega
  have hx1 : (text[0]'hlt).toNat < 256 := (text[0]).toNat_lt
  have hcl := clsArr_at (text[0]'hlt).toNat hx1
  have HO : Hid (okB 6 text = (cls (text[0]'hlt).toNat == 4)) := Lib.hid (by show (decide (text.size = 1) && _) = _; rw [decide_eq_true h1, Bool.true_and, ← bt_in hlt]; rfl)
  have hix := cls_index _ hx1 _ hcl
  generalize cls (text[0]'hlt).toNat = v at HO hix hcl
  have hs1 : (text.size : Int) = 1 := by omega
  clear hcl
  go_enter Tryz.func11, Tryz.ntmps11
  go_wp2_with fail
  have hc1 : (w.alloc (.cells #[.int .i64 6, .string text, .int .i64 a] 27)).cell? ⟨w.heap.size, 1, none⟩ = some (.string text) := by
    have hT := heap_alloc_new w (.cells #[.int .i64 6, .string text, .int .i64 a] 27)
    generalize World.alloc _ _ = U at hT ⊢
    simp [World.cell?, hT]
  have hsz : (w.alloc (.cells #[.int .i64 6, .string text, .int .i64 a] 27)).heap.size = w.heap.size + 1 := by simp
  have hbW : Below w.heap.size w (w.alloc (.cells #[.int .i64 6, .string text, .int .i64 a] 27)) := below_alloc1 _ _
  generalize w.alloc (.cells #[.int .i64 6, .string text, .int .i64 a] 27) = W0 at hc1 hsz hbW ⊢
  go_region_with ((go_at_call 36; go_loud (refine (classes_any _).mono ?_); go_loud (rintro e w1 ⟨rfl, hb⟩); go_loud (have c2 : w1.cell? ⟨w.heap.size, 1, none⟩ = some (.string text) := (hb.cell (p := ⟨w.heap.size, 1, none⟩) (by show w.heap.size < W0.heap.size; omega)).trans hc1); go_loud (have hb3 : Below w.heap.size w w1 := hbW.drew.trans (hb.mono (by show w.heap.size ≤ W0.heap.size; omega))); go_loud (clear hb)))
  all_goals go_wp2
  all_goals go_ret
  all_goals (refine ⟨?_, hb3⟩; rw [chkB_of HO.out]; simp_all)
set_option maxHeartbeats 1000000 in
set_option maxRecDepth 100000 in
theorem check_signB (text : ByteArray) (a : Int) (w : World) :
    Calls Tryz.prog 11 #[.agg #[.int .i64 6, .string text, .int .i64 a]] w fun e w' => e = .returned (.int .i64 (chkB 6 text)) ∧ Below w.heap.size w w' := by
  by_cases h1 : text.size = 1
  · exact check_sign1 text a w h1
  · have HO : Hid (okB 6 text = false) := Lib.hid (by show (decide (text.size = 1) && _) = _; rw [decide_eq_false h1, Bool.false_and])
    have g1 : ((text.size : Int) == 1) = false := by rw [beq_eq_false_iff_ne]; omega
    go_enter Tryz.func11, Tryz.ntmps11
    go_wp2
    go_quiet (fail)
    go_wp2
    go_ret
    exact ⟨by rw [chkB_of HO.out]; rfl, below_drewN (below_alloc1 w _) _⟩
set_option maxHeartbeats 2000000 in
set_option maxRecDepth 100000 in
theorem Check_any (kind : Int) (text : ByteArray) (a : Int) (w : World) :
    Calls Tryz.prog 11 #[.agg #[.int .i64 kind, .string text, .int .i64 a]] w fun e w' => e = .returned (.int .i64 (chkB kind text)) ∧ Below w.heap.size w w' := by
  by_cases k1 : kind = 1
  · subst k1
    go_enter Tryz.func11, Tryz.ntmps11
    go_wp2
    go_ret
    exact ⟨rfl, below_alloc1 w _⟩
  by_cases k2 : kind = 2
  · subst k2
    have hX := fun w => IsWord_any text w
    have HO : Hid (okB 2 text = isWordB text) := rfl
    generalize isWordB text = b at hX HO
    clear k1
    cases b <;>
    · go_enter Tryz.func11, Tryz.ntmps11
      go_wp2_with (go_at_call 28; refine (hX _).mono ?_; rintro e w1 ⟨rfl, hb⟩)
      go_ret
      exact ⟨by rw [chkB_of HO.out]; rfl, (below_alloc1 w _).trans (hb.mono (by simp))⟩
  by_cases k3 : kind = 3
  · subst k3
    have hX := fun w => IsName_any text w
    have HO : Hid (okB 3 text = isNameB text) := rfl
    generalize isNameB text = b at hX HO
    clear k1 k2
    cases b <;>
    · go_enter Tryz.func11, Tryz.ntmps11
      go_wp2_with (go_at_call 26; refine (hX _).mono ?_; rintro e w1 ⟨rfl, hb⟩)
      go_ret
      exact ⟨by rw [chkB_of HO.out]; rfl, (below_alloc1 w _).trans (hb.mono (by simp))⟩
  by_cases k4 : kind = 4
  · subst k4
    have hX := fun w => IsNumber_any text w
    have HO : Hid (okB 4 text = isNumB text) := rfl
    generalize isNumB text = b at hX HO
    clear k1 k2 k3
    cases b <;>
    · go_enter Tryz.func11, Tryz.ntmps11
      go_wp2_with (go_at_call 29; refine (hX _).mono ?_; rintro e w1 ⟨rfl, hb⟩)
      go_ret
      exact ⟨by rw [chkB_of HO.out]; rfl, (below_alloc1 w _).trans (hb.mono (by simp))⟩
  by_cases k5 : kind = 5
  · subst k5
    have hX := fun w => isVariable_any text w
    have HO : Hid (okB 5 text = isVarB text) := rfl
    generalize isVarB text = b at hX HO
    clear k1 k2 k3 k4
    cases b <;>
    · go_enter Tryz.func11, Tryz.ntmps11
      go_wp2_with (go_at_call 35; refine (hX _).mono ?_; rintro e w1 ⟨rfl, hb⟩)
      go_ret
      exact ⟨by rw [chkB_of HO.out]; rfl, (below_alloc1 w _).trans (hb.mono (by simp))⟩
  by_cases k6 : kind = 6
  · subst k6
    clear k1 k2 k3 k4 k5
    exact check_signB text a w
  by_cases k7 : kind = 7
  · subst k7
    clear k1 k2 k3 k4 k5 k6
    have hX := fun w => isKeyword_any text w
    have HO : Hid (okB 7 text = isKeyB text) := rfl
    generalize isKeyB text = b at hX HO
    cases b <;>
    · go_enter Tryz.func11, Tryz.ntmps11
      go_wp2_with (go_at_call 37; refine (hX _).mono ?_; rintro e w1 ⟨rfl, rfl⟩)
      go_ret
      exact ⟨by rw [chkB_of HO.out]; rfl, below_alloc1 w _⟩
  have HO : Hid (okB kind text = false) := Lib.hid (by unfold okB; rw [if_neg k1, if_neg k2, if_neg k3, if_neg k4, if_neg k5, if_neg k6, if_neg k7])
  go_enter Tryz.func11, Tryz.ntmps11
  go_wp2
  go_ret
  exact ⟨by rw [chkB_of HO.out]; rfl, below_alloc1 w _⟩
end Go.Proofs.YtmapaagdaojpaaaGreatDoor
