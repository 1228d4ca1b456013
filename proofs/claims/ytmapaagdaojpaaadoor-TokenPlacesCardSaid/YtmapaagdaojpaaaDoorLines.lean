/- The law TokenLines: its walk, over what awake says. -/
import Derived.Test.YtmapaagdaojpaaaDoorPlace
namespace Go.Proofs.YtmapaagdaojpaaaDoor
open Go.RowKit

/-- What awake says in every later world. -/
def AwakeAt (w : World) : Prop := ∀ W, Below w.heap.size w W → Calls Tryd.prog 6 #[] W fun e w' => e = .returned (.bool true) ∧ Below W.heap.size W w'
set_option maxHeartbeats 1000000 in
set_option maxRecDepth 100000 in
theorem TokenLines_any (s : ByteArray) (w : World) (hA : AwakeAt w) :
    Calls Tryd.prog 5 #[.string s] w fun e w' => e = .returned (.bool true) ∧ Below w.heap.size w w' := by
  have hA0 := hA w (Below.refl _ _)
  by_cases hs : 3000 < s.size
  · have h0 : decide ((3000 : Int) < (s.size : Int)) = true := decide_eq_true (by omega)
    go_enter Tryd.func5, Tryd.ntmps5
    go_wp2_with (go_at_call 6; refine hA0.mono ?_; rintro e w' ⟨rfl, hb⟩)
    all_goals first
      | (exfalso; omega; done)
      | skip
    go_ret
    exact ⟨rfl, hb⟩
  · have h0 : decide ((3000 : Int) < (s.size : Int)) = false := decide_eq_false (by omega)
    have w0 : IntKind.i64.wrap ((s.size : Int) + 1) = s.size + 1 := IntWalk.i64_in _ (by omega)
    have hO1 := Place_out s (s.size + 1) w (.inr (by omega))
    have hO2 := Place_out s (-1) w (.inl (by omega))
    go_enter Tryd.func5, Tryd.ntmps5
    go_wp2
    go_loopw [22, 3, 4] (fun i l c wr => ∃ (k : Nat) (L C : Int), k ≤ s.size + 1 ∧ i = .int .i64 k ∧ l = .int .i64 L ∧ c = .int .i64 C ∧ wr = w ∧ (1 ≤ C ∧ C ≤ k + 2) ∧ (1 ≤ L ∧ L ≤ k + 1) ∧ Hid (k ≤ s.size → L = lineOf s k ∧ C = colOf s k))
      (fun i _ _ _ => s.size + 1 - (intOf i).toNat)
    case atStart => exact ⟨0, 1, 1, by omega, rfl, rfl, rfl, rfl, by omega, by omega, fun _ => ⟨(line_zero s).symm, (col_zero s).symm⟩⟩
    case round =>
      obtain ⟨k, L, C, hk, rfl, rfl, rfl, rfl, hC, hL, hR⟩ := hrel
      by_cases hlt : k ≤ s.size
      · obtain ⟨rfl, rfl⟩ := hR.out hlt
        clear hR
        have hP := Place_in s k wr (by omega) hlt
        have hcn := fun hk h => col_next s (k := k) hk h
        generalize hLL : lineOf s k = L at *
        generalize hCC : colOf s k = C at *
        have HL := Lib.hid hLL
        have HC := Lib.hid hCC
        clear hLL hCC hcn
        have l0 : decide ((k : Int) < (s.size : Int) + 1) = true := decide_eq_true (by omega)
        have w1 : IntKind.i64.wrap (C + 1) = C + 1 := IntWalk.i64_in _ (by omega)
        have w2 : IntKind.i64.wrap (L + 1) = L + 1 := IntWalk.i64_in _ (by omega)
        have w3 : IntKind.i64.wrap ((k : Int) + 1) = k + 1 := IntWalk.i64_in _ (by omega)
        by_cases hin : k < s.size
        · have HB : Hid (((s[k]'hin).toNat : Int) = bt s k) := bt_in hin
          have hl : decide (k < s.size) = true := decide_eq_true hin
          have l1 : decide ((k : Int) < (s.size : Int)) = true := decide_eq_true (by omega)
          by_cases hb : ((s[k]'hin).toNat : Int) = 10
          · have hb2 : bt s k = 10 := by rw [← HB.out]; exact hb
            go_wp2_with (go_at_call 11; refine hP.mono ?_; rintro e w' ⟨rfl, rfl⟩)
            all_goals first
              | (exfalso; omega; done)
              | skip
            go_roundw
            case rel => exact ⟨k + 1, L + 1, 1, by omega, by go_num, rfl, rfl, by trivial, by omega, by omega, fun _ => ⟨by rw [line_lf s hin hb2, HL.out], (col_lf s hin hb2).symm⟩⟩
            case measure => simp [intOf]; omega
          · have hb2 : ¬ bt s k = 10 := by rw [← HB.out]; exact hb
            go_wp2_with (go_at_call 11; refine hP.mono ?_; rintro e w' ⟨rfl, rfl⟩)
            all_goals first
              | (exfalso; omega; done)
              | skip
            go_roundw
            case rel => exact ⟨k + 1, L, C + 1, by omega, by go_num, rfl, rfl, by trivial, by omega, by omega, fun _ => ⟨by rw [line_next s hin hb2, HL.out], by rw [col_next s hin hb2, HC.out]⟩⟩
            case measure => simp [intOf]; omega
        · have l1 : decide ((k : Int) < (s.size : Int)) = false := decide_eq_false (by omega)
          go_wp2_with (go_at_call 11; refine hP.mono ?_; rintro e w' ⟨rfl, rfl⟩)
          all_goals first
            | (exfalso; omega; done)
            | skip
          go_roundw
          case rel => exact ⟨k + 1, L, C + 1, by omega, by go_num, rfl, rfl, by trivial, by omega, by omega, fun h => by omega⟩
          case measure => simp [intOf]; omega
      · have l0 : decide ((k : Int) < (s.size : Int) + 1) = false := decide_eq_false (by omega)
        go_wp2_with fail
        refine hO1.mono ?_
        rintro e w' ⟨rfl, rfl⟩
        clear hO1
        go_wp2_with fail
        refine hO2.mono ?_
        rintro e w' ⟨rfl, rfl⟩
        clear hO2
        go_wp2_with fail
        refine hA0.mono ?_
        rintro e w' ⟨rfl, hb⟩
        clear hA0
        go_wp2_with fail
        go_ret
        exact ⟨rfl, hb⟩
end Go.Proofs.YtmapaagdaojpaaaDoor
