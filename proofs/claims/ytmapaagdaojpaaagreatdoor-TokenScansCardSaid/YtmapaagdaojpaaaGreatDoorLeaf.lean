/- The small functions of package token: hexadecimal, next, run, isKeyword. -/
import Derived.Test.YtmapaagdaojpaaaGreatDoorProg
import Derived.Test.YtmapaagdaojpaaaGreatDoorWx
import Derived.Test.YtmapaagdaojpaaaGreatDoorPx
import Derived.Test.YtmapaagdaojpaaaGreatDoorShelf
namespace Go.Proofs.YtmapaagdaojpaaaGreatDoor
open Go.RowKit

theorem ret_int {k : IntKind} {a b : Int} (h : a = b) : Ending.returned (.int k a) = .returned (.int k b) := by rw [h]

set_option maxHeartbeats 400000 in
theorem hexadecimal_any (c : Int) (h0 : 0 ≤ c) (h1 : c ≤ 255) (w : World) :
    Calls Tryz.prog 122 #[.int .u8 c] w fun e w' => e = .returned (.tuple #[.int .u8 ((hexv c).getD 0), .bool (hexv c).isSome]) ∧ w' = w := by
  have H : Hid (hexv c = if 48 ≤ c ∧ c ≤ 57 then some (c - 48) else if 97 ≤ c ∧ c ≤ 102 then some (c - 87) else if 65 ≤ c ∧ c ≤ 70 then some (c - 55) else none) := rfl
  generalize hexv c = x at *
  go_enter Tryz.func122, Tryz.ntmps122
  go_wp2
  all_goals go_ret2
  all_goals
    have H2 := H.out
    refine ⟨?_, rfl⟩
    first
    | rw [if_pos (by omega)] at H2; subst H2; simp; done
    | rw [if_neg (by omega), if_pos (by omega)] at H2; subst H2; simp; omega
    | rw [if_neg (by omega), if_neg (by omega), if_pos (by omega)] at H2; subst H2; simp; omega
    | rw [if_neg (by omega), if_neg (by omega), if_neg (by omega)] at H2; subst H2; simp; done

/-- The cells of a scanner. -/
def scanCell (s : ByteArray) (at_ : Nat) (sp : Value) (i : Nat) : Value :=
  if i = 0 then .string s else if i = 1 then .int .i64 at_ else if i < 258 then .int .i64 (cls (i - 2)) else sp
/-- Block b is a scanner. -/
def ScanRow (b : Nat) (s : ByteArray) (at_ : Nat) (sp : Value) (w : World) : Prop := w.rowIs b 93 259 (scanCell s at_ sp)
section
variable {b : Nat} {s : ByteArray} {at_ : Nat} {sp : Value} {w : World}
theorem ScanRow.c0 (h : ScanRow b s at_ sp w) : w.cell? ⟨b, 0, none⟩ = some (.string s) := World.rowIs.cell h (by omega)
theorem ScanRow.c1 (h : ScanRow b s at_ sp w) : w.cell? ⟨b, 1, none⟩ = some (.int .i64 at_) := World.rowIs.cell h (by omega)
theorem ScanRow.c2 (h : ScanRow b s at_ sp w) (j : Nat) (hj : j < 256) : w.cell? ⟨b, 2 + j, none⟩ = some (.int .i64 (cls j)) :=
  (World.rowIs.cell h (by omega)).trans (by unfold scanCell; rw [if_neg (by omega), if_neg (by omega), if_pos (by omega), show 2 + j - 2 = j by omega])
theorem ScanRow.c3 (h : ScanRow b s at_ sp w) : w.cell? ⟨b, 258, none⟩ = some sp := World.rowIs.cell h (by omega)
theorem ScanRow.frozen (h : ScanRow b s at_ sp w) (i : Nat) : w.frozen? ⟨b, i, none⟩ = false := World.rowIs.frozen h i
theorem ScanRow.drewN (h : ScanRow b s at_ sp w) (k : Nat) : ScanRow b s at_ sp (w.drewN k) := h
theorem ScanRow.set1 (h : ScanRow b s at_ sp w) (at' : Nat) : ScanRow b s at' sp (w.setCell ⟨b, 1, none⟩ (.int .i64 at')) :=
  (World.rowIs.set h 1 _).congr (fun i _ => by unfold scanCell; by_cases h1 : i = 1 <;> simp [h1])
theorem ScanRow.set3 (h : ScanRow b s at_ sp w) (sp' : Value) : ScanRow b s at_ sp' (w.setCell ⟨b, 258, none⟩ sp') :=
  (World.rowIs.set h 258 _).congr (fun i hi => by
    unfold scanCell
    by_cases h1 : i = 258
    · subst h1; simp
    · rw [if_neg h1]; repeat' split
      all_goals first | rfl | omega)
theorem ScanRow.of_below {B : Nat} {w' : World} (h : ScanRow b s at_ sp w) (hb : Below B w w') (hB : b < B) : ScanRow b s at_ sp w' := World.rowIs.of_block h (hb.block b hB)
theorem ScanRow.lt (h : ScanRow b s at_ sp w) : b < w.heap.size := World.rowIs.lt h
end

set_option maxHeartbeats 400000 in
theorem next_any (b : Nat) (s : ByteArray) (at_ n : Nat) (sp : Value) (w : World) (h1 : at_ ≤ 40000) (n1 : n ≤ 10) (hw : ScanRow b s at_ sp w) :
    Calls Tryz.prog 112 #[.pointer (some ⟨b, 0, none⟩), .int .i64 n] w fun e w' => e = .returned (.int .u8 (bt s (at_ + n))) ∧ ∃ k, w' = w.drewN k := by
  have hc0 := hw.c0
  have hc1 := hw.c1
  clear hw
  have hp : (0 : Int) ≤ at_ + n := by omega
  have hw : IntKind.i64.wrap ((at_ : Int) + n) = at_ + n := IntWalk.i64_in _ (by omega)
  have ht : ((at_ : Int) + n).toNat = at_ + n := by omega
  by_cases hlt : at_ + n < s.size
  · have hl : ((at_ : Int) + n) < s.size := by omega
    have hl2 : decide ((at_ : Int) + n < s.size) = true := decide_eq_true hl
    have hb := bt_in hlt
    have HB : Hid (((s[at_ + n]'hlt).toNat : Int) = bt s (at_ + n)) := hb
    clear hb
    go_enter Tryz.func112, Tryz.ntmps112
    go_wp2
    go_quiet (fail)
    go_wp2
    go_quiet (fail)
    go_wp2
    go_ret
    exact ⟨ret_int HB.out, _, World.drewN_drewN _ _ _⟩
  · have hl2 : decide ((at_ : Int) + n < s.size) = false := decide_eq_false (by omega)
    have HB : Hid (bt s (at_ + n) = 0) := bt_out (by omega)
    go_enter Tryz.func112, Tryz.ntmps112
    go_wp2
    go_quiet (fail)
    go_wp2
    go_ret
    exact ⟨ret_int HB.out.symm, _, rfl⟩
end Go.Proofs.YtmapaagdaojpaaaGreatDoor
