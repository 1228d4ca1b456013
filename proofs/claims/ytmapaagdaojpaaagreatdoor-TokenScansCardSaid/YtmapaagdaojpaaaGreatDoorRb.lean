/- The reference's names, words, variables. -/
import Derived.Test.YtmapaagdaojpaaaGreatDoorRa
import Derived.Test.YtmapaagdaojpaaaGreatDoorNames
import Derived.RegionCalls
import Derived.OwnWalk
namespace Go.Proofs.YtmapaagdaojpaaaGreatDoor
open Go.RowKit

theorem runTo_all (s : ByteArray) (p : Int → Bool) : ∀ (n i : Nat), s.size - i = n → i ≤ s.size → (runTo s p i = s.size ↔ ∀ j, i ≤ j → j < s.size → p (bt s j) = true)
  | 0, i, hn, hi => by
    rw [runTo_stop (by omega)]
    exact ⟨fun _ j h1 h2 => by omega, fun _ => by omega⟩
  | n + 1, i, hn, hi => by
    by_cases hp : p (bt s i) = true
    · rw [runTo_step (by omega) hp, runTo_all s p n (i + 1) (by omega) (by omega)]
      exact ⟨fun h j h1 h2 => by
        by_cases e : j = i
        · rw [e]; exact hp
        · exact h j (by omega) h2, fun h j h1 h2 => h j (by omega) h2⟩
    · rw [runTo_stop (by intro q; exact hp q.2)]
      exact ⟨fun h => by omega, fun h => absurd (h i (Nat.le_refl _) (by omega)) hp⟩
theorem run_yes {s : ByteArray} {p : Int → Bool} {i : Nat} (hi : i ≤ s.size) (h : ∀ j, i ≤ j → j < s.size → p (bt s j) = true) : decide (runTo s p i = s.size) = true :=
  decide_eq_true ((runTo_all s p _ i rfl hi).2 h)
theorem run_no {s : ByteArray} {p : Int → Bool} {i j : Nat} (hi : i ≤ j) (hj : j < s.size) (h : p (bt s j) = false) : decide (runTo s p i = s.size) = false :=
  decide_eq_false fun q => by
    have := (runTo_all s p _ i rfl (by omega)).1 q j hi hj
    rw [h] at this; cases this
/-- Is a text an identifier of at most n bytes? -/
def isNameM (n : Int) (s : ByteArray) : Bool := decide (s.size ≠ 0) && decide ((s.size : Int) ≤ n) && (cls (bt s 0).toNat == 2) && decide (runTo s (inner dashes) 1 = s.size)
theorem isNameM_60 (s : ByteArray) : isNameM 60 s = isNameB s := by
  unfold isNameM isNameB
  have : decide ((s.size : Int) ≤ 60) = decide (s.size ≤ 60) := by rw [decide_eq_decide]; omega
  rw [this]
def wordP (c : Int) : Bool := decide (32 ≤ c) && decide (c ≤ 126)
/-- Is it the text of a word? -/
def isWordB (s : ByteArray) : Bool := decide (s.size ≠ 0) && decide (s.size ≤ 60) && decide (runTo s wordP 0 = s.size)
/-- Is it a variable's text? -/
def isVarR (s : ByteArray) : Bool := decide (s.size ≠ 0) && decide (s.size ≤ 40) && decide (runTo s (inner none8) 0 = s.size)
set_option maxHeartbeats 400000 in
theorem rInner_any (c : Int) (h0 : 0 ≤ c) (h1 : c ≤ 255) (w : World) :
    Calls Tryz.prog 83 #[.int .u8 c] w fun e w' => e = .returned (.bool (inner dashes c)) ∧ w' = w := by
  have hL := fun w => rLetter_any c h0 w
  have hD := fun w => rDigit_any c h0 w
  rw [inner_is c h0 h1]
  generalize (cls c.toNat == 2) = L at hL
  generalize (cls c.toNat == 3) = D at hD
  go_enter Tryz.func83, Tryz.ntmps83
  cases L with
  | true =>
    go_wp2_with (first | (go_at_call 76; refine (hL _).mono ?_; rintro e w' ⟨rfl, rfl⟩) | (go_at_call 69; refine (hD _).mono ?_; rintro e w' ⟨rfl, rfl⟩))
    all_goals go_ret
    all_goals (refine ⟨?_, rfl⟩; simp_all)
  | false =>
    cases D <;>
    · go_wp2_with (first | (go_at_call 76; refine (hL _).mono ?_; rintro e w' ⟨rfl, rfl⟩) | (go_at_call 69; refine (hD _).mono ?_; rintro e w' ⟨rfl, rfl⟩))
      all_goals go_ret
      all_goals (refine ⟨?_, rfl⟩; simp_all)
set_option maxHeartbeats 800000 in
set_option maxRecDepth 100000 in
theorem rIsName_any (s : ByteArray) (n : Int) (w : World) (hn : 0 ≤ n) (hn2 : n ≤ 1000) :
    Calls Tryz.prog 60 #[.string s, .int .i64 n] w fun e w' => e = .returned (.bool (isNameM n s)) ∧ w' = w := by
  by_cases h0 : s.size = 0
  · obtain rfl : s = ByteArray.empty := by simpa using h0
    have HR : Hid (isNameM n ByteArray.empty = false) := by simp [isNameM, Hid]
    go_enter Tryz.func60, Tryz.ntmps60
    go_wp2
    go_ret
    exact ⟨by rw [HR.out]; rfl, rfl⟩
  · have hl : ¬ s.toList = [] := toList_ne h0
    have hl2 : s.toList.isEmpty = false := by simpa using hl
    have hlt : 0 < s.size := by omega
    by_cases h1 : (s.size : Int) ≤ n
    · have g1 : decide (n < (s.size : Int)) = false := decide_eq_false (by omega)
      have hB := bt_in hlt
      have hL := fun w => rLetter_any ((s[0]'hlt).toNat : Int) (by omega) w
      rw [hB] at hL
      have l0 : decide (0 < s.size) = true := decide_eq_true hlt
      by_cases hc : (cls (bt s 0).toNat == 2) = true
      · rw [hc] at hL
        have HB := Lib.hid hB
        have HC := Lib.hid hc
        clear hB hc
        go_enter Tryz.func60, Tryz.ntmps60
        go_wp2_with fail
        rw [HB.out]
        refine (hL _).mono ?_
        rintro e w' ⟨rfl, rfl⟩
        have HRB : Hid (isNameM n s = decide (runTo s (inner dashes) 1 = s.size)) := Lib.hid (by unfold isNameM; rw [HC.out, decide_eq_true h0, decide_eq_true h1]; rfl)
        clear hL
        go_wp2
        go_loopw [5] (fun i wr => ∃ k : Nat, k ≤ s.size ∧ i = .int .i64 k ∧ wr = w' ∧ Hid (∀ j, j < k → inner dashes (bt s j) = true)) (fun i _ => s.size - (intOf i).toNat)
        case atStart => exact ⟨0, Nat.zero_le _, rfl, rfl, Lib.hid fun j hj => by omega⟩
        case round =>
          obtain ⟨k, hk, rfl, rfl, HK⟩ := hrel
          by_cases hkl : k < s.size
          · have l1 : decide ((k : Int) < (s.size : Int)) = true := decide_eq_true (by omega)
            have l2 : decide (k < s.size) = true := decide_eq_true hkl
            have wk : IntKind.i64.wrap ((k : Int) + 1) = k + 1 := IntWalk.i64_in _ (by omega)
            have HX := Lib.hid (bt_in hkl)
            have hI := fun w => rInner_any (bt s k) (bt_lo s k) (bt_hi s k) w
            by_cases hi : inner dashes (bt s k) = true
            · rw [hi] at hI
              have HI := Lib.hid hi
              clear hi
              go_wp2_with fail
              rw [HX.out]
              refine (hI _).mono ?_
              rintro e w' ⟨rfl, rfl⟩
              clear hI
              go_wp2
              go_roundw
              case rel => exact ⟨k + 1, by omega, by go_num, by trivial, Lib.hid fun j hj => by
                by_cases e : j = k
                · rw [e]; exact HI.out
                · exact HK.out j (by omega)⟩
              case measure => simp [intOf]; omega
            · have hi2 : inner dashes (bt s k) = false := by simpa using hi
              rw [hi2] at hI
              have HI := Lib.hid hi2
              clear hi hi2
              go_wp2_with fail
              rw [HX.out]
              refine (hI _).mono ?_
              rintro e w' ⟨rfl, rfl⟩
              clear hI
              go_wp2
              go_ret
              have hk1 : 1 ≤ k := by
                rcases Nat.eq_zero_or_pos k with e | e
                · subst e
                  have := HI.out
                  rw [inner_is _ (bt_lo s 0) (bt_hi s 0), HC.out] at this
                  simp at this
                · exact e
              exact ⟨by rw [HRB.out, run_no hk1 hkl HI.out]; rfl, rfl⟩
          · have l1 : decide ((k : Int) < (s.size : Int)) = false := decide_eq_false (by omega)
            go_wp2
            go_ret
            exact ⟨by rw [HRB.out, run_yes (by omega) (fun j h1 h2 => HK.out j (by omega))]; rfl, rfl⟩
      · have hc2 : (cls (bt s 0).toNat == 2) = false := by simpa using hc
        rw [hc2] at hL
        have HRB : Hid (isNameM n s = false) := Lib.hid (by unfold isNameM; rw [hc2]; simp)
        have HB := Lib.hid hB
        clear hB hc hc2
        go_enter Tryz.func60, Tryz.ntmps60
        go_wp2_with fail
        rw [HB.out]
        refine (hL _).mono ?_
        rintro e w' ⟨rfl, rfl⟩
        go_wp2
        go_ret
        exact ⟨by rw [HRB.out]; rfl, rfl⟩
    · have g1 : decide (n < (s.size : Int)) = true := decide_eq_true (by omega)
      have HRB : Hid (isNameM n s = false) := Lib.hid (by unfold isNameM; rw [decide_eq_false h1]; simp)
      go_enter Tryz.func60, Tryz.ntmps60
      go_wp2
      go_ret
      exact ⟨by rw [HRB.out]; rfl, rfl⟩
set_option maxHeartbeats 800000 in
set_option maxRecDepth 100000 in
theorem rIsWord_any (s : ByteArray) (w : World) (hs : s.size ≤ 1000000) :
    Calls Tryz.prog 38 #[.string s] w fun e w' => e = .returned (.bool (isWordB s)) ∧ w' = w := by
  go_enter Tryz.func38, Tryz.ntmps38
  go_wp2
  go_loopw [3] (fun i wr => ∃ k : Nat, k ≤ s.size ∧ i = .int .i64 k ∧ wr = w ∧ Hid (∀ j, j < k → wordP (bt s j) = true)) (fun i _ => s.size - (intOf i).toNat)
  case atStart => exact ⟨0, Nat.zero_le _, rfl, rfl, Lib.hid fun j hj => by omega⟩
  case round =>
    obtain ⟨k, hk, rfl, rfl, HK⟩ := hrel
    by_cases hkl : k < s.size
    · have l1 : decide ((k : Int) < (s.size : Int)) = true := decide_eq_true (by omega)
      have l2 : decide (k < s.size) = true := decide_eq_true hkl
      have wk : IntKind.i64.wrap ((k : Int) + 1) = k + 1 := IntWalk.i64_in _ (by omega)
      have HX := Lib.hid (bt_in hkl)
      by_cases hi : wordP (bt s k) = true
      · have HI := Lib.hid hi
        have hi2 := hi
        unfold wordP at hi2
        simp only [Bool.and_eq_true, decide_eq_true_eq] at hi2
        have d1 : decide (((s[k]'hkl).toNat : Int) < 32) = false := decide_eq_false (by rw [HX.out]; omega)
        have d2 : decide ((126 : Int) < ((s[k]'hkl).toNat : Int)) = false := decide_eq_false (by rw [HX.out]; omega)
        clear hi hi2
        go_wp2
        go_roundw
        case rel => exact ⟨k + 1, by omega, by go_num, by trivial, Lib.hid fun j hj => by
          by_cases e : j = k
          · rw [e]; exact HI.out
          · exact HK.out j (by omega)⟩
        case measure => simp [intOf]; omega
      · have hi2 : wordP (bt s k) = false := by simpa using hi
        have HI := Lib.hid hi2
        have HF : Hid (isWordB s = false) := Lib.hid (by unfold isWordB; rw [run_no (Nat.zero_le k) hkl hi2]; simp)
        have hor : bt s k < 32 ∨ 126 < bt s k := by
          unfold wordP at hi2
          simp only [Bool.and_eq_false_iff, decide_eq_false_iff_not] at hi2
          omega
        clear hi hi2
        rcases hor with hor | hor
        · have d1 : decide (((s[k]'hkl).toNat : Int) < 32) = true := decide_eq_true (by rw [HX.out]; omega)
          clear hor
          go_wp2
          go_ret
          exact ⟨by rw [HF.out]; rfl, rfl⟩
        · have d1 : decide (((s[k]'hkl).toNat : Int) < 32) = false := decide_eq_false (by rw [HX.out]; omega)
          have d2 : decide ((126 : Int) < ((s[k]'hkl).toNat : Int)) = true := decide_eq_true (by rw [HX.out]; omega)
          clear hor
          go_wp2
          go_ret
          exact ⟨by rw [HF.out]; rfl, rfl⟩
    · have l1 : decide ((k : Int) < (s.size : Int)) = false := decide_eq_false (by omega)
      obtain rfl : k = s.size := by omega
      have HW : Hid (isWordB s = (decide (s.size ≠ 0) && decide (s.size ≤ 60))) := Lib.hid (by unfold isWordB; rw [run_yes (Nat.zero_le _) (fun j h1 h2 => HK.out j (by omega))]; simp)
      by_cases h0 : s.size = 0
      · obtain rfl : s = ByteArray.empty := by simpa using h0
        go_wp2
        go_ret
        exact ⟨by rw [HW.out]; rfl, rfl⟩
      · have hl : ¬ s.toList = [] := toList_ne h0
        have hl2 : s.toList.isEmpty = false := by simpa using hl
        by_cases h1 : s.size ≤ 60
        · have g1 : decide ((s.size : Int) ≤ 60) = true := decide_eq_true (by omega)
          go_wp2
          go_ret
          exact ⟨by rw [HW.out]; simp [h0, h1], rfl⟩
        · have g1 : decide ((s.size : Int) ≤ 60) = false := decide_eq_false (by omega)
          go_wp2
          go_ret
          exact ⟨by rw [HW.out]; simp [h1], rfl⟩
end Go.Proofs.YtmapaagdaojpaaaGreatDoor
