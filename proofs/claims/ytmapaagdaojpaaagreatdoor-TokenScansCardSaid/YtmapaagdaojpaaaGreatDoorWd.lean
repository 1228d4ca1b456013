/- token.IsWord. -/
import Derived.Test.YtmapaagdaojpaaaGreatDoorRd
import Derived.Test.YtmapaagdaojpaaaGreatDoorStp
namespace Go.Proofs.YtmapaagdaojpaaaGreatDoor
open Go.RowKit

set_option maxHeartbeats 400000 in
theorem wordF_any (c : Int) (w : World) :
    Calls Tryz.prog 62 #[.int .u8 c] w fun e w' => e = .returned (.bool (!wordP c)) ∧ w' = w := by
  have hs : (!wordP c) = (decide (c < 32) || decide (126 < c)) := by
    unfold wordP
    rw [Bool.eq_iff_iff]
    simp only [Bool.not_eq_true', Bool.and_eq_false_iff, decide_eq_false_iff_not, Bool.or_eq_true, decide_eq_true_eq]
    omega
  rw [hs]
  go_enter Tryz.func62, Tryz.ntmps62
  go_wp2
  all_goals go_ret
  all_goals (refine ⟨?_, rfl⟩; simp_all)
set_option maxHeartbeats 800000 in
set_option maxRecDepth 100000 in
theorem IndexFunc_any (s : ByteArray) (o cap : Nat) (w : World) (hO : OutAt o (bu s) s.size w) (hs : s.size ≤ 1000000) :
    Calls Tryz.prog 84 #[.slice (some ⟨o, 0, none⟩) s.size cap, .func (.func 62) #[] #[]] w fun e w' => (∃ r : Int, e = .returned (.int .i64 r) ∧ decide (0 ≤ r) = !decide (runTo s wordP 0 = s.size)) ∧ w' = w := by
  have HO := Lib.hid hO
  clear hO
  go_enter Tryz.func84, Tryz.ntmps84
  go_wp2
  go_loopw [8] (fun i wr => ∃ k : Nat, k ≤ s.size ∧ i = .int .i64 k ∧ wr = w ∧ Hid (∀ j, j < k → wordP (bt s j) = true)) (fun i _ => s.size - (intOf i).toNat)
  case atStart => exact ⟨0, Nat.zero_le _, rfl, rfl, Lib.hid fun j hj => by omega⟩
  case round =>
    obtain ⟨k, hk, rfl, rfl, HK⟩ := hrel
    by_cases hkl : k < s.size
    · have l1 : decide ((k : Int) < (s.size : Int)) = true := decide_eq_true (by omega)
      have wk : IntKind.i64.wrap ((k : Int) + 1) = k + 1 := IntWalk.i64_in _ (by omega)
      have hc := HO.out.cell k hkl
      rw [← bt_bu] at hc
      have hF := fun w => wordF_any (bt s k) w
      by_cases hi : wordP (bt s k) = true
      · have HI := Lib.hid hi
        rw [hi] at hF
        clear hi
        go_wp2_with (go_at_call 62; refine (hF _).mono ?_; rintro e w' ⟨rfl, rfl⟩)
        go_roundw
        case rel => exact ⟨k + 1, by omega, by go_num, by trivial, Lib.hid fun j hj => by
          by_cases e : j = k
          · rw [e]; exact HI.out
          · exact HK.out j (by omega)⟩
        case measure => simp [intOf]; omega
      · have hi2 : wordP (bt s k) = false := by simpa using hi
        have HF : Hid (decide (runTo s wordP 0 = s.size) = false) := Lib.hid (run_no (Nat.zero_le k) hkl hi2)
        rw [hi2] at hF
        clear hi hi2
        go_wp2_with (go_at_call 62; refine (hF _).mono ?_; rintro e w' ⟨rfl, rfl⟩)
        go_ret
        exact ⟨⟨_, rfl, by rw [HF.out]; exact decide_eq_true (by omega)⟩, rfl⟩
    · have l1 : decide ((k : Int) < (s.size : Int)) = false := decide_eq_false (by omega)
      have HF : Hid (decide (runTo s wordP 0 = s.size) = true) := Lib.hid (run_yes (Nat.zero_le _) (fun j h1 h2 => HK.out j (by omega)))
      go_wp2
      go_ret
      exact ⟨⟨_, rfl, by rw [HF.out]; rfl⟩, rfl⟩
theorem ContainsFunc_any (s : ByteArray) (o cap : Nat) (w : World) (hO : OutAt o (bu s) s.size w) (hs : s.size ≤ 1000000) :
    Calls Tryz.prog 61 #[.slice (some ⟨o, 0, none⟩) s.size cap, .func (.func 62) #[] #[]] w fun e w' => e = .returned (.bool (!decide (runTo s wordP 0 = s.size))) ∧ w' = w := by
  have hI := IndexFunc_any s o cap w hO hs
  go_enter Tryz.func61, Tryz.ntmps61
  go_wp2_with fail
  refine hI.mono ?_
  rintro e w1 ⟨⟨r, rfl, hr⟩, rfl⟩
  clear hI
  go_wp2
  go_ret
  exact ⟨by rw [← hr]; rfl, rfl⟩
set_option maxHeartbeats 800000 in
set_option maxRecDepth 100000 in
theorem IsWord_any (s : ByteArray) (w : World) :
    Calls Tryz.prog 28 #[.string s] w fun e w' => e = .returned (.bool (isWordB s)) ∧ Below w.heap.size w w' := by
  by_cases h0 : s.size = 0
  · obtain rfl : s = ByteArray.empty := by simpa using h0
    go_enter Tryz.func28, Tryz.ntmps28
    go_wp2
    go_ret
    exact ⟨by unfold isWordB; rfl, Below.refl _ _⟩
  have hl : ¬ s.toList = [] := toList_ne h0
  have hl2 : s.toList.isEmpty = false := by simpa using hl
  by_cases h1 : s.size ≤ 60
  · have g1 : decide ((s.size : Int) ≤ 60) = true := decide_eq_true (by omega)
    obtain ⟨cap, W, hcv, hO, hb, hz⟩ := open_bytes s w
    go_enter Tryz.func28, Tryz.ntmps28
    go_wp2_with fail
    refine (ContainsFunc_any s w.heap.size cap W hO (by omega)).mono ?_
    rintro e w1 ⟨rfl, rfl⟩
    go_wp2
    go_ret
    exact ⟨by unfold isWordB; rw [decide_eq_true h0, decide_eq_true h1]; simp, hb⟩
  · have g1 : decide ((s.size : Int) ≤ 60) = false := decide_eq_false (by omega)
    go_enter Tryz.func28, Tryz.ntmps28
    go_wp2
    go_ret
    exact ⟨by unfold isWordB; rw [decide_eq_false h1]; simp, Below.refl _ _⟩
end Go.Proofs.YtmapaagdaojpaaaGreatDoor
