/- token.IsNumber. -/
import Derived.Test.YtmapaagdaojpaaaGreatDoorNames
import Derived.Test.YtmapaagdaojpaaaGreatDoorPx
import Derived.Shelf.Strings.SlTrimAscii
namespace Go.Proofs.YtmapaagdaojpaaaGreatDoor
open Go.RowKit

theorem Trim_any (d : ByteArray) (w : World) (hs : d.size ≤ 9223372036854775807) :
    Calls Tryz.prog 64 #[.string d, .string digitsB] w fun e w' => e = .returned (.string (trimD d)) ∧ Below w.heap.size w w' :=
  Any.strings_Trim_laid Tryz.lays160 (by kernel_rfl) d digitsB w hs (by decide) (ascii_of_all (by decide))

set_option maxHeartbeats 1000000 in
set_option maxRecDepth 100000 in
theorem IsNumber_any (s : ByteArray) (w : World) :
    Calls Tryz.prog 29 #[.string s] w fun e w' => e = .returned (.bool (isNumB s)) ∧ Below w.heap.size w w' := by
  generalize hR : isNumB s = R
  have HR := Lib.hid hR
  clear hR
  have hP : Calls Tryz.prog 63 #[.string s, .string dashB] w fun e w' => e = .returned (.string (numD s)) ∧ w' = w := Tryz.strings_TrimPrefix s dashB w
  have hT := fun w hs => Trim_any (numD s) w hs
  generalize hD : numD s = d at hP hT
  have HD := Lib.hid hD
  clear hD
  go_enter Tryz.func29, Tryz.ntmps29
  go_wp2_with fail
  refine hP.mono ?_
  rintro e w1 ⟨rfl, rfl⟩
  clear hP
  go_wp2_with fail
  · have h0 : d.toList = [] := by assumption
    go_ret
    exact ⟨by rw [num_no HR.out HD.out (.inl h0)]; rfl, Below.refl _ _⟩
  · have h0 : ¬ d.toList = [] := by assumption
    have h1 : (d.size : Int) ≤ 500 := by assumption
    have h1 : d.size ≤ 500 := by omega
    have hlt : 0 < d.size := Nat.pos_of_ne_zero (fun e => h0 (by
      obtain rfl : d = ByteArray.empty := by simpa using e
      simp))
    have HB : Hid (((d[0]'hlt).toNat : Int) = bt d 0) := bt_in hlt
    refine (hT _ (by omega)).mono ?_
    rintro e w2 ⟨rfl, hb⟩
    clear hT
    generalize hT : trimD d = x
    have HT := Lib.hid hT
    clear hT
    go_wp2_with fail
    · have hx : (d.toList.isEmpty = true ∨ (500 : Int) < d.size) ∨ (!x.toList.isEmpty) = true := by assumption
      have hx : ¬ x.toList = [] := by
        rcases hx with (hx | hx) | hx
        · exact absurd (by simpa using hx) h0
        · omega
        · simpa using hx
      go_ret
      exact ⟨by rw [num_no HR.out HD.out (.inr (.inr (by rw [HT.out]; exact hx)))]; rfl, hb⟩
    · have hx : (d.toList.isEmpty = false ∧ (d.size : Int) ≤ 500) ∧ (!x.toList.isEmpty) = false := by assumption
      have hx : x.toList = [] := by simpa using hx.2
      have hc : ((d[0]'hlt).toNat : Int) = 48 := by assumption
      go_ret
      exact ⟨by rw [num_yes HR.out HD.out h0 h1 (by rw [HT.out]; exact hx), ← HB.out, hc]; rfl, hb⟩
    · have hx : (d.toList.isEmpty = false ∧ (d.size : Int) ≤ 500) ∧ (!x.toList.isEmpty) = false := by assumption
      have hx : x.toList = [] := by simpa using hx.2
      have hc : ¬ ((d[0]'hlt).toNat : Int) = 48 := by assumption
      have hc2 : (bt d 0 != 48) = true := by rw [← HB.out]; simpa using hc
      go_ret
      exact ⟨by rw [num_yes HR.out HD.out h0 h1 (by rw [HT.out]; exact hx), hc2]; rfl, hb⟩
  · have h1 : ((500 : Int) < d.size) := by first | assumption | omega
    go_ret
    exact ⟨by rw [num_no HR.out HD.out (.inr (.inl (by omega)))]; rfl, Below.refl _ _⟩
end Go.Proofs.YtmapaagdaojpaaaGreatDoor
