/- The reference's classes of bytes. -/
import Derived.Test.YtmapaagdaojpaaaGreatDoorProg
import Derived.Test.YtmapaagdaojpaaaGreatDoorWx
import Derived.Test.YtmapaagdaojpaaaGreatDoorPx
import Derived.Test.YtmapaagdaojpaaaGreatDoorShelf
namespace Go.Proofs.YtmapaagdaojpaaaGreatDoor
open Go.RowKit

theorem cls_let (c : Int) (h0 : 0 ≤ c) : (cls c.toNat == 2) = (decide (97 ≤ c) && decide (c ≤ 122) || decide (65 ≤ c) && decide (c ≤ 90)) := by
  rw [Bool.eq_iff_iff]
  simp only [beq_iff_eq, Bool.or_eq_true, Bool.and_eq_true, decide_eq_true_eq]
  unfold cls
  constructor
  · intro h; repeat' split at h
    all_goals first | omega | cases h
  · intro h; repeat' split
    all_goals first | omega | rfl
theorem cls_dig (c : Int) (h0 : 0 ≤ c) : (cls c.toNat == 3) = (decide (48 ≤ c) && decide (c ≤ 57)) := by
  rw [Bool.eq_iff_iff]
  simp only [beq_iff_eq, Bool.and_eq_true, decide_eq_true_eq]
  unfold cls
  constructor
  · intro h; repeat' split at h
    all_goals first | omega | cases h
  · intro h; repeat' split
    all_goals first | omega | rfl
theorem cls_whi (c : Int) (h0 : 0 ≤ c) : (cls c.toNat == 1) = (c == 32 || c == 9 || c == 10 || c == 13) := by
  rw [Bool.eq_iff_iff]
  simp only [beq_iff_eq, Bool.or_eq_true]
  unfold cls
  constructor
  · intro h; repeat' split at h
    all_goals first | omega | cases h
  · intro h; repeat' split
    all_goals first | omega | rfl
theorem cls_sig (c : Int) (h0 : 0 ≤ c) : cls c.toNat = 4 ↔ (c = 40 ∨ c = 41 ∨ c = 60 ∨ c = 62 ∨ c = 123 ∨ c = 125 ∨ c = 61 ∨ c = 44 ∨ c = 58 ∨ c = 59) := by
  unfold cls
  constructor
  · intro h; repeat' split at h
    all_goals first | omega | cases h
  · intro h; repeat' split
    all_goals first | omega | rfl
theorem inner_is (c : Int) (h0 : 0 ≤ c) (h1 : c ≤ 255) : inner dashes c = (cls c.toNat == 2 || cls c.toNat == 3 || c == 45 || c == 95) := by
  have : ∀ i : Fin 256, inner dashes (i.val : Int) = (cls (i.val : Int).toNat == 2 || cls (i.val : Int).toNat == 3 || (i.val : Int) == 45 || (i.val : Int) == 95) := by decide +kernel
  have h := this ⟨c.toNat, by omega⟩
  have e : ((c.toNat : Nat) : Int) = c := by omega
  dsimp only at h
  rw [e] at h
  exact h
theorem inner_none (c : Int) (h0 : 0 ≤ c) (h1 : c ≤ 255) : inner none8 c = (cls c.toNat == 2 || cls c.toNat == 3) := by
  have : ∀ i : Fin 256, inner none8 (i.val : Int) = (cls (i.val : Int).toNat == 2 || cls (i.val : Int).toNat == 3) := by decide +kernel
  have h := this ⟨c.toNat, by omega⟩
  have e : ((c.toNat : Nat) : Int) = c := by omega
  dsimp only at h
  rw [e] at h
  exact h
set_option maxHeartbeats 400000 in
theorem rLetter_any (c : Int) (h0 : 0 ≤ c) (w : World) :
    Calls Tryz.prog 76 #[.int .u8 c] w fun e w' => e = .returned (.bool (cls c.toNat == 2)) ∧ w' = w := by
  rw [cls_let c h0]
  go_enter Tryz.func76, Tryz.ntmps76
  go_wp2
  all_goals go_ret
  all_goals (refine ⟨?_, rfl⟩; simp_all; try omega)
set_option maxHeartbeats 400000 in
theorem rDigit_any (c : Int) (h0 : 0 ≤ c) (w : World) :
    Calls Tryz.prog 69 #[.int .u8 c] w fun e w' => e = .returned (.bool (cls c.toNat == 3)) ∧ w' = w := by
  rw [cls_dig c h0]
  go_enter Tryz.func69, Tryz.ntmps69
  go_wp2
  all_goals go_ret
  all_goals (refine ⟨?_, rfl⟩; simp_all; try omega)
set_option maxHeartbeats 400000 in
theorem rWhite_any (c : Int) (h0 : 0 ≤ c) (w : World) :
    Calls Tryz.prog 53 #[.int .u8 c] w fun e w' => e = .returned (.bool (cls c.toNat == 1)) ∧ w' = w := by
  rw [cls_whi c h0]
  go_enter Tryz.func53, Tryz.ntmps53
  go_wp2
  all_goals go_ret
  all_goals (refine ⟨?_, rfl⟩; simp_all; try omega)
end Go.Proofs.YtmapaagdaojpaaaGreatDoor
