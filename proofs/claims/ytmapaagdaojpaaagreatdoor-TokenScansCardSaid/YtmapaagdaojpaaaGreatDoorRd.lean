/- The reference's Check. -/
import Derived.Test.YtmapaagdaojpaaaGreatDoorRc
import Derived.Test.YtmapaagdaojpaaaGreatDoorPx
namespace Go.Proofs.YtmapaagdaojpaaaGreatDoor
open Go.RowKit

/-- Has a token a right text, by the reference? -/
def okR (kind : Int) (text : ByteArray) : Bool :=
  if kind = 1 then true else if kind = 2 then isWordB text else if kind = 3 then isNameB text else if kind = 4 then isNumR text else if kind = 5 then isVarB text
  else if kind = 6 then decide (text.size = 1) && (cls (bt text 0).toNat == 4) else if kind = 7 then isKeyB text else false
def chkR (kind : Int) (text : ByteArray) : Int := if okR kind text = true then 0 else 2
theorem chkR_of {kind : Int} {text : ByteArray} {b : Bool} (h : okR kind text = b) : chkR kind text = if b = true then 0 else 2 := by unfold chkR; rw [h]
theorem rIsName2_any (s : ByteArray) (w : World) :
    Calls Tryz.prog 27 #[.string s] w fun e w' => e = .returned (.bool (isNameB s)) ∧ w' = w := by
  go_enter Tryz.func27, Tryz.ntmps27
  go_wp2_with fail
  refine (rIsName_any s 60 w (by decide) (by decide)).mono ?_
  rintro e w1 ⟨rfl, rfl⟩
  rw [isNameM_60]
  go_wp2
  go_ret
  exact ⟨rfl, rfl⟩
set_option maxHeartbeats 400000 in
theorem rNear_any (k : Int) (w : World) :
    Calls Tryz.prog 45 #[.int .i64 k] w fun e w' => e = .returned (.bool (k == 3 || k == 4 || k == 5 || k == 7)) ∧ w' = w := by
  go_enter Tryz.func45, Tryz.ntmps45
  go_wp2
  all_goals go_ret
  all_goals (refine ⟨?_, rfl⟩; simp_all)
set_option maxHeartbeats 2000000 in
set_option maxRecDepth 100000 in
theorem rCheck_any (kind : Int) (text : ByteArray) (a : Int) (w : World) (hs : text.size ≤ 1000000) :
    Calls Tryz.prog 12 #[.agg #[.int .i64 kind, .string text, .int .i64 a]] w fun e w' => e = .returned (.int .i64 (chkR kind text)) ∧ Below w.heap.size w w' := by
  by_cases k1 : kind = 1
  · subst k1
    go_enter Tryz.func12, Tryz.ntmps12
    go_wp2
    go_ret
    exact ⟨rfl, below_alloc1 w _⟩
  by_cases k2 : kind = 2
  · subst k2
    have hX := fun w => rIsWord_any text w hs
    have HO : Hid (okR 2 text = isWordB text) := rfl
    generalize isWordB text = b at hX HO
    clear k1
    cases b <;>
    · go_enter Tryz.func12, Tryz.ntmps12
      go_wp2_with (go_at_call 38; refine (hX _).mono ?_; rintro e w1 ⟨rfl, rfl⟩)
      go_ret
      exact ⟨by rw [chkR_of HO.out]; rfl, below_alloc1 w _⟩
  by_cases k3 : kind = 3
  · subst k3
    have hX := fun w => rIsName2_any text w
    have HO : Hid (okR 3 text = isNameB text) := rfl
    generalize isNameB text = b at hX HO
    clear k1 k2
    cases b <;>
    · go_enter Tryz.func12, Tryz.ntmps12
      go_wp2_with (go_at_call 27; refine (hX _).mono ?_; rintro e w1 ⟨rfl, rfl⟩)
      go_ret
      exact ⟨by rw [chkR_of HO.out]; rfl, below_alloc1 w _⟩
  by_cases k4 : kind = 4
  · subst k4
    have hX := fun w => rIsNumber_any text w hs
    have HO : Hid (okR 4 text = isNumR text) := rfl
    generalize isNumR text = b at hX HO
    clear k1 k2 k3
    cases b <;>
    · go_enter Tryz.func12, Tryz.ntmps12
      go_wp2_with (go_at_call 39; refine (hX _).mono ?_; rintro e w1 ⟨rfl, rfl⟩)
      go_ret
      exact ⟨by rw [chkR_of HO.out]; rfl, below_alloc1 w _⟩
  by_cases k5 : kind = 5
  · subst k5
    have hX := fun w => rVariable_any text w hs
    rw [isVarV_eq] at hX
    have HO : Hid (okR 5 text = isVarB text) := rfl
    generalize isVarB text = b at hX HO
    clear k1 k2 k3 k4
    cases b <;>
    · go_enter Tryz.func12, Tryz.ntmps12
      go_wp2_with (go_at_call 40; refine (hX _).mono ?_; rintro e w1 ⟨⟨v, rfl⟩, hb⟩)
      go_ret
      exact ⟨by rw [chkR_of HO.out]; rfl, (below_alloc1 w _).trans (hb.mono (by simp))⟩
  by_cases k6 : kind = 6
  · subst k6
    clear k1 k2 k3 k4 k5
    by_cases h1 : text.size = 1
    · have hlt : 0 < text.size := by omega
      have hX : ∀ w, Calls Tryz.prog 41 #[.int .u8 ((text[0]'hlt).toNat : Int)] w fun e w' => e = .returned (.bool (cls (bt text 0).toNat == 4)) ∧ w' = w := fun w => by
        rw [bt_in hlt]; exact rIsSign_any _ (bt_lo text 0) w
      have HO : Hid (okR 6 text = (cls (bt text 0).toNat == 4)) := Lib.hid (by show (decide (text.size = 1) && _) = _; rw [decide_eq_true h1, Bool.true_and])
      have g1 : ((text.size : Int) == 1) = true := by rw [beq_iff_eq]; omega
      have l0 : decide (0 < text.size) = true := decide_eq_true hlt
      have h1' : (text.size : Int) = 1 := by omega
      generalize (cls (bt text 0).toNat == 4) = b at hX HO
      cases b <;>
      · go_enter Tryz.func12, Tryz.ntmps12
        go_wp2_with (go_at_call 41; refine (hX _).mono ?_; rintro e w1 ⟨rfl, rfl⟩)
        go_ret
        exact ⟨by rw [chkR_of HO.out]; rfl, below_alloc1 w _⟩
    · have HO : Hid (okR 6 text = false) := Lib.hid (by show (decide (text.size = 1) && _) = _; rw [decide_eq_false h1, Bool.false_and])
      have g1 : ((text.size : Int) == 1) = false := by rw [beq_eq_false_iff_ne]; omega
      go_enter Tryz.func12, Tryz.ntmps12
      go_wp2
      go_ret
      exact ⟨by rw [chkR_of HO.out]; rfl, below_alloc1 w _⟩
  by_cases k7 : kind = 7
  · subst k7
    clear k1 k2 k3 k4 k5 k6
    have HO : Hid (okR 7 text = isKeyB text) := rfl
    unfold isKeyB at HO
    by_cases e1 : text.toList = [36, 69, 78, 84, 82, 89]
    · have b1 : (text.toList == [36, 69, 78, 84, 82, 89]) = true := by simpa using e1
      rw [b1] at HO
      go_enter Tryz.func12, Tryz.ntmps12
      go_wp2
      go_ret
      exact ⟨by rw [chkR_of HO.out]; rfl, below_alloc1 w _⟩
    · have b1 : (text.toList == [36, 69, 78, 84, 82, 89]) = false := by simpa using e1
      by_cases e2 : text.toList = [36, 69, 88, 84, 69, 82, 78]
      · have b2 : (text.toList == [36, 69, 88, 84, 69, 82, 78]) = true := by simpa using e2
        rw [b1, b2] at HO
        go_enter Tryz.func12, Tryz.ntmps12
        go_wp2
        go_ret
        exact ⟨by rw [chkR_of HO.out]; rfl, below_alloc1 w _⟩
      · have b2 : (text.toList == [36, 69, 88, 84, 69, 82, 78]) = false := by simpa using e2
        rw [b1, b2] at HO
        go_enter Tryz.func12, Tryz.ntmps12
        go_wp2
        go_ret
        exact ⟨by rw [chkR_of HO.out]; rfl, below_alloc1 w _⟩
  have HO : Hid (okR kind text = false) := Lib.hid (by unfold okR; rw [if_neg k1, if_neg k2, if_neg k3, if_neg k4, if_neg k5, if_neg k6, if_neg k7])
  go_enter Tryz.func12, Tryz.ntmps12
  go_wp2
  go_ret
  exact ⟨by rw [chkR_of HO.out]; rfl, below_alloc1 w _⟩
end Go.Proofs.YtmapaagdaojpaaaGreatDoor
