/- token.Place: the line and the column of a place. -/
import Derived.Test.YtmapaagdaojpaaaGreatDoorPb
import Derived.Test.YtmapaagdaojpaaaGreatDoorLeaf
import Derived.Lib.LastIndexByte
import Derived.Lib.Split
import Derived.OwnWalk
namespace Go.Proofs.YtmapaagdaojpaaaGreatDoor
open Go.RowKit

def lfB : ByteArray := ⟨#[10]⟩
def lineOf (s : ByteArray) (k : Nat) : Int := (Lib.countByte (s.extract 0 k).data.toList 10 : Nat) + 1
def colOf (s : ByteArray) (k : Nat) : Int := k - Lib.lastIndexByte (s.extract 0 k) 10
theorem ext_data (s : ByteArray) {k j : Nat} (hk : k ≤ s.size) (hj : j < k) : (s.extract 0 k).data[j]! = s.data[j]! := by
  have h1 : (s.extract 0 k).data.size = k := by
    show (s.extract 0 k).size = k
    rw [ByteArray.size_extract]; omega
  have h2 : j < s.data.size := by show j < s.size; omega
  rw [getElem!_pos (s.extract 0 k).data j (by omega), getElem!_pos s.data j h2]
  have := ByteArray.getElem_extract (b := s) (start := 0) (stop := k) (i := j) (by show j < (s.extract 0 k).data.size; omega)
  simp only [Nat.zero_add] at this
  exact this
theorem lastIdx_congr (s t : ByteArray) (c : Int) : ∀ k, (∀ j, j < k → s.data[j]! = t.data[j]!) → Lib.lastIdx s c k = Lib.lastIdx t c k
  | 0, _ => rfl
  | k + 1, h => by
    unfold Lib.lastIdx
    rw [h k (by omega), lastIdx_congr s t c k (fun j hj => h j (by omega))]
theorem lastIndex_ext (s : ByteArray) {k : Nat} (hk : k ≤ s.size) : Lib.lastIndexByte (s.extract 0 k) 10 = Lib.lastIdx s 10 k := by
  unfold Lib.lastIndexByte
  have h1 : (s.extract 0 k).size = k := by rw [ByteArray.size_extract]; omega
  rw [h1]
  exact lastIdx_congr _ _ _ _ (fun j hj => ext_data s hk hj)
theorem bt_data (s : ByteArray) {k : Nat} (hk : k < s.size) : ((s.data[k]!).toNat : Int) = bt s k := by
  rw [getElem!_pos s.data k hk, ← bt_in hk]; rfl
theorem col_zero (s : ByteArray) : colOf s 0 = 1 := by
  unfold colOf; rw [lastIndex_ext s (Nat.zero_le _)]; rfl
theorem col_lf (s : ByteArray) {k : Nat} (hk : k < s.size) (h : bt s k = 10) : colOf s (k + 1) = 1 := by
  unfold colOf; rw [lastIndex_ext s hk, Lib.lastIdx_hit s 10 k (by rw [bt_data s hk]; exact h)]; omega
theorem col_next (s : ByteArray) {k : Nat} (hk : k < s.size) (h : ¬ bt s k = 10) : colOf s (k + 1) = colOf s k + 1 := by
  unfold colOf; rw [lastIndex_ext s hk, lastIndex_ext s (Nat.le_of_lt hk), Lib.lastIdx_miss s 10 k (by rw [bt_data s hk]; exact h)]; omega
theorem lines_next (s : ByteArray) {k : Nat} (hk : k < s.size) : Lib.countByte (s.extract 0 (k + 1)).data.toList 10 = Lib.countByte (s.extract 0 k).data.toList 10 + if bt s k = 10 then 1 else 0 := by
  have hl : k < s.data.toList.length := by simpa using hk
  rw [Lib.extract_from_zero, Lib.extract_from_zero]
  unfold Lib.countByte
  have hb := u8_eq (s.data.toList[k]) 10 (by omega)
  have hd : bt s k = ((s.data.toList[k]).toNat : Int) := by rw [← bt_in hk]; rfl
  rw [← List.take_append_getElem hl, List.count_append]
  by_cases h : bt s k = 10
  · rw [if_pos h]
    have : s.data.toList[k] = 10 := hb.2 (by rw [← hd]; exact h)
    rw [this]; rfl
  · rw [if_neg h]
    have : ¬ s.data.toList[k] = 10 := fun q => h (by rw [hd]; exact hb.1 q)
    have h0 : List.count 10 [s.data.toList[k]] = 0 := by rw [List.count_eq_zero, List.mem_singleton]; exact fun q => this q.symm
    rw [h0]
theorem line_zero (s : ByteArray) : lineOf s 0 = 1 := by
  unfold lineOf; rw [Lib.extract_from_zero]; rfl
theorem line_lf (s : ByteArray) {k : Nat} (hk : k < s.size) (h : bt s k = 10) : lineOf s (k + 1) = lineOf s k + 1 := by
  unfold lineOf; rw [lines_next s hk, if_pos h]; omega
theorem line_next (s : ByteArray) {k : Nat} (hk : k < s.size) (h : ¬ bt s k = 10) : lineOf s (k + 1) = lineOf s k := by
  unfold lineOf; rw [lines_next s hk, if_neg h]; omega
theorem col_range (s : ByteArray) {k : Nat} (hk : k ≤ s.size) : 1 ≤ colOf s k ∧ colOf s k ≤ k + 1 := by
  unfold colOf
  rw [lastIndex_ext s hk]
  rcases Lib.lastIdx_spec s 10 k with ⟨e, _⟩ | ⟨i, hi, e, _⟩ <;> rw [e] <;> omega
theorem line_range (s : ByteArray) (k : Nat) (hk : k ≤ s.size) : 1 ≤ lineOf s k ∧ lineOf s k ≤ k + 1 := by
  unfold lineOf
  have := List.count_le_length (a := (10 : UInt8)) (l := (s.extract 0 k).data.toList)
  have h2 : (s.extract 0 k).data.toList.length = k := by
    rw [Array.length_toList]; show (s.extract 0 k).size = k; rw [ByteArray.size_extract]; omega
  unfold Lib.countByte
  omega

set_option maxHeartbeats 400000 in
/-- A place outside the text. -/
theorem Place_out (s : ByteArray) (at_ : Int) (w : World) (h : at_ < 0 ∨ (s.size : Int) < at_) :
    Calls Tryz.prog 24 #[.string s, .int .i64 at_] w fun e w' => e = .returned (.tuple #[.int .i64 0, .int .i64 0, .int .i64 4]) ∧ w' = w := by
  rcases h with h | h
  · have h0 : decide (at_ < 0) = true := decide_eq_true h
    go_enter Tryz.func24, Tryz.ntmps24
    go_wp2
    all_goals first
      | (go_ret3; exact ⟨rfl, rfl⟩)
      | (exfalso; omega)
  · have h0 : decide (at_ < 0) = false := decide_eq_false (by omega)
    have h1 : decide ((s.size : Int) < at_) = true := decide_eq_true h
    go_enter Tryz.func24, Tryz.ntmps24
    go_wp2
    all_goals first
      | (go_ret3; exact ⟨rfl, rfl⟩)
      | (exfalso; omega)
set_option maxHeartbeats 400000 in
/-- A place of the text. -/
theorem Place_in (s : ByteArray) (k : Nat) (w : World) (hs : s.size < 4611686018427387904) (h : k ≤ s.size) :
    Calls Tryz.prog 24 #[.string s, .int .i64 k] w fun e w' => e = .returned (.tuple #[.int .i64 (lineOf s k), .int .i64 (colOf s k), .int .i64 0]) ∧ w' = w := by
  have hC : ∀ w, Calls Tryz.prog 57 #[.string (s.extract 0 k), .string lfB] w fun e w' => e = .returned (.int .i64 (lineOf s k - 1)) ∧ w' = w := fun w =>
    (Tryz.strings_Count_one (s.extract 0 k) 10 w).mono fun e w' q => ⟨by rw [q.1]; unfold lineOf; rw [show ((Lib.countByte (s.extract 0 k).data.toList 10 : Nat) : Int) + 1 - 1 = (Lib.countByte (s.extract 0 k).data.toList 10 : Nat) by omega], q.2⟩
  have hL : ∀ w, Calls Tryz.prog 58 #[.string (s.extract 0 k), .int .u8 10] w fun e w' => e = .returned (.int .i64 (k - colOf s k)) ∧ w' = w := fun w =>
    (Tryz.strings_LastIndexByte (s.extract 0 k) 10 (by rw [ByteArray.size_extract]; omega) w).mono fun e w' q => ⟨by rw [q.1]; unfold colOf; rw [show (k : Int) - ((k : Int) - Lib.lastIndexByte (s.extract 0 k) 10) = Lib.lastIndexByte (s.extract 0 k) 10 by omega], q.2⟩
  have hc := col_range s h
  have hl := line_range s k h
  generalize lineOf s k = L at *
  generalize colOf s k = C at *
  have h0 : decide ((k : Int) < 0) = false := decide_eq_false (by omega)
  have h1 : decide ((s.size : Int) < k) = false := decide_eq_false (by omega)
  have w1 : IntKind.i64.wrap (L - 1 + 1) = L := by rw [IntWalk.i64_in _ (by omega)]; omega
  have w2 : IntKind.i64.wrap ((k : Int) - (k - C)) = C := by rw [IntWalk.i64_in _ (by omega)]; omega
  go_enter Tryz.func24, Tryz.ntmps24
  go_wp2_with (first
    | (go_at_call 57; refine (hC _).mono ?_; rintro e w' ⟨rfl, rfl⟩)
    | (go_at_call 58; refine (hL _).mono ?_; rintro e w' ⟨rfl, rfl⟩))
  all_goals first
    | (exfalso; omega; done)
    | skip
  go_ret3
  exact ⟨rfl, rfl⟩
end Go.Proofs.YtmapaagdaojpaaaGreatDoor
