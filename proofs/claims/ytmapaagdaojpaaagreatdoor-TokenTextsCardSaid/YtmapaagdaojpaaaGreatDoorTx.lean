/- The law TokenTexts: its walk, over what awake says. -/
import Derived.Test.YtmapaagdaojpaaaGreatDoorCk
import Derived.Test.YtmapaagdaojpaaaGreatDoorPlace
import Derived.Test.YtmapaagdaojpaaaGreatDoorAw
namespace Go.Proofs.YtmapaagdaojpaaaGreatDoor
open Go.RowKit

set_option maxHeartbeats 400000 in
theorem rPlace_out (s : ByteArray) (at_ : Int) (w : World) (h : at_ < 0 ∨ (s.size : Int) < at_) :
    Calls Tryz.prog 25 #[.string s, .int .i64 at_] w fun e w' => e = .returned (.tuple #[.int .i64 0, .int .i64 0, .int .i64 4]) ∧ w' = w := by
  by_cases h1 : at_ < 0
  · go_enter Tryz.func25, Tryz.ntmps25
    go_wp2
    go_ret3
    exact ⟨rfl, rfl⟩
  · have l1 : decide (at_ < 0) = false := decide_eq_false h1
    have l2 : decide ((s.size : Int) < at_) = true := decide_eq_true (by omega)
    go_enter Tryz.func25, Tryz.ntmps25
    go_wp2
    go_ret3
    exact ⟨rfl, rfl⟩
set_option maxHeartbeats 800000 in
set_option maxRecDepth 100000 in
theorem rPlace_in (s : ByteArray) (n : Nat) (w : World) (hs : s.size ≤ 1000000) (h : n ≤ s.size) :
    Calls Tryz.prog 25 #[.string s, .int .i64 n] w fun e w' => e = .returned (.tuple #[.int .i64 (lineOf s n), .int .i64 (colOf s n), .int .i64 0]) ∧ w' = w := by
  have l1 : decide ((n : Int) < 0) = false := decide_eq_false (by omega)
  have l2 : decide ((s.size : Int) < n) = false := decide_eq_false (by omega)
  go_enter Tryz.func25, Tryz.ntmps25
  go_wp2
  go_loopw [9, 7, 8] (fun i l c wr => ∃ (k : Nat) (L C : Int), k ≤ n ∧ i = .int .i64 k ∧ l = .int .i64 L ∧ c = .int .i64 C ∧ wr = w ∧ (1 ≤ C ∧ C ≤ k + 1) ∧ (1 ≤ L ∧ L ≤ k + 1) ∧ Hid (L = lineOf s k ∧ C = colOf s k))
    (fun i _ _ _ => n - (intOf i).toNat)
  case atStart => exact ⟨0, 1, 1, by omega, rfl, rfl, rfl, rfl, by omega, by omega, (line_zero s).symm, (col_zero s).symm⟩
  case round =>
    obtain ⟨k, L, C, hk, rfl, rfl, rfl, rfl, hC, hL, hR⟩ := hrel
    by_cases hkn : k < n
    · have g0 : decide ((k : Int) < (n : Int)) = true := decide_eq_true (by omega)
      have hin : k < s.size := by omega
      have g1 : decide (k < s.size) = true := decide_eq_true hin
      have HB : Hid (((s[k]'hin).toNat : Int) = bt s k) := bt_in hin
      have w1 : IntKind.i64.wrap (C + 1) = C + 1 := IntWalk.i64_in _ (by omega)
      have w2 : IntKind.i64.wrap (L + 1) = L + 1 := IntWalk.i64_in _ (by omega)
      have w3 : IntKind.i64.wrap ((k : Int) + 1) = k + 1 := IntWalk.i64_in _ (by omega)
      by_cases hb : ((s[k]'hin).toNat : Int) = 10
      · have hb2 : bt s k = 10 := by rw [← HB.out]; exact hb
        go_wp2
        go_roundw
        case rel => exact ⟨k + 1, L + 1, 1, by omega, by go_num, rfl, rfl, by trivial, by omega, by omega, by rw [line_lf s hin hb2, hR.out.1], (col_lf s hin hb2).symm⟩
        case measure => simp [intOf]; omega
      · have hb2 : ¬ bt s k = 10 := by rw [← HB.out]; exact hb
        go_wp2
        go_roundw
        case rel => exact ⟨k + 1, L, C + 1, by omega, by go_num, rfl, rfl, by trivial, by omega, by omega, by rw [line_next s hin hb2, hR.out.1], by rw [col_next s hin hb2, hR.out.2]⟩
        case measure => simp [intOf]; omega
    · have g0 : decide ((k : Int) < (n : Int)) = false := decide_eq_false (by omega)
      obtain rfl : k = n := by omega
      go_wp2
      go_ret3
      exact ⟨by rw [← hR.out.1, ← hR.out.2]; rfl, rfl⟩
theorem Place_both (s : ByteArray) (at_ : Int) (hs : s.size ≤ 1000000) : ∃ L C E : Int, (∀ w, Calls Tryz.prog 24 #[.string s, .int .i64 at_] w fun e w' => e = .returned (.tuple #[.int .i64 L, .int .i64 C, .int .i64 E]) ∧ w' = w) ∧
    ∀ w, Calls Tryz.prog 25 #[.string s, .int .i64 at_] w fun e w' => e = .returned (.tuple #[.int .i64 L, .int .i64 C, .int .i64 E]) ∧ w' = w := by
  by_cases h : at_ < 0 ∨ (s.size : Int) < at_
  · exact ⟨0, 0, 4, fun w => Place_out s at_ w h, fun w => rPlace_out s at_ w h⟩
  · obtain ⟨k, rfl⟩ : ∃ k : Nat, at_ = k := ⟨at_.toNat, by omega⟩
    exact ⟨lineOf s k, colOf s k, 0, fun w => Place_in s k w (by omega) (by omega), fun w => rPlace_in s k w hs (by omega)⟩
set_option maxHeartbeats 2000000 in
set_option maxRecDepth 100000 in
theorem TokenTexts_any (s : ByteArray) (at_ : Int) (w : World) (hA : AwakeAt w) :
    Calls Tryz.prog 6 #[.string s, .int .i64 at_] w fun e w' => e = .returned (.bool true) ∧ Below w.heap.size w w' := by
  have HA : Hid (AwakeAt w) := hA
  clear hA
  by_cases hs : 3000 < s.size
  · have h0 : decide ((3000 : Int) < (s.size : Int)) = true := decide_eq_true (by omega)
    go_enter Tryz.func6, Tryz.ntmps6
    go_wp2_with fail
    refine (HA.out w (Below.refl _ _)).mono ?_
    rintro e w1 ⟨rfl, hb⟩
    go_wp2_with fail
    go_ret
    exact ⟨rfl, hb⟩
  have h0 : decide ((3000 : Int) < (s.size : Int)) = false := decide_eq_false (by omega)
  obtain ⟨L, C, E, hP, hQ⟩ := Place_both s at_ (by omega)
  have hC2 := fun w => rCheck_any 2 s 0 w (by omega)
  have hC4 := fun w => rCheck_any 4 s 0 w (by omega)
  rw [chkR_eq] at hC2 hC4
  have e2 : chkB 2 s = if isWordB s = true then 0 else 2 := rfl
  have e4 : chkB 4 s = if isNumB s = true then 0 else 2 := rfl
  rw [e2] at hC2
  rw [e4] at hC4
  clear e2 e4
  have hN := fun w => IsName_any s w
  have hRN := fun w => rIsName2_any s w
  have hW := fun w => IsWord_any s w
  have hM := fun w => IsNumber_any s w
  generalize isNameB s = bn at hN hRN
  generalize isWordB s = bw at hC2 hW
  generalize isNumB s = bm at hC4 hM
  cases bw <;> cases bm <;>
  · simp only [if_true, Bool.false_eq_true, if_false] at hC2 hC4
    go_enter Tryz.func6, Tryz.ntmps6
    go_wp2_with fail
    refine (hP _).mono ?_
    rintro e w1 ⟨rfl, rfl⟩
    clear hP
    go_wp2_with fail
    refine (hQ _).mono ?_
    rintro e w2 ⟨rfl, rfl⟩
    clear hQ
    go_wp2_with fail
    refine (hC2 _).mono ?_
    rintro e w3 ⟨rfl, hb3⟩
    clear hC2
    go_wp2_with fail
    refine (hC4 _).mono ?_
    rintro e w4 ⟨rfl, hb4⟩
    clear hC4
    have HB4 : Hid (Below w2.heap.size w2 w4) := hb3.trans (hb4.mono hb3.size)
    clear hb3 hb4
    go_wp2_with fail
    refine (hN _).mono ?_
    rintro e w5 ⟨rfl, hb5⟩
    clear hN
    have HB5 : Hid (Below w2.heap.size w2 w5) := HB4.out.trans (hb5.mono HB4.out.size)
    clear hb5
    go_wp2_with fail
    refine (hRN _).mono ?_
    rintro e w6 ⟨rfl, rfl⟩
    clear hRN
    go_wp2_with fail
    refine (hW _).mono ?_
    rintro e w7 ⟨rfl, hb7⟩
    clear hW
    have HB7 : Hid (Below w2.heap.size w2 w7) := HB5.out.trans (hb7.mono HB5.out.size)
    clear hb7
    go_wp2_with fail
    refine (hM _).mono ?_
    rintro e w8 ⟨rfl, hb8⟩
    clear hM
    have HB8 : Hid (Below w2.heap.size w2 w8) := HB7.out.trans (hb8.mono HB7.out.size)
    clear hb8
    go_wp2_with fail
    refine (HA.out _ HB8.out).mono ?_
    rintro e w9 ⟨rfl, hb9⟩
    go_wp2_with fail
    go_ret
    exact ⟨rfl, HB8.out.trans (hb9.mono HB8.out.size)⟩
end Go.Proofs.YtmapaagdaojpaaaGreatDoor
