/- token.Write and the reference's Write, at every token. -/
import Derived.Test.YtmapaagdaojpaaaGreatDoorCk
import Derived.Test.YtmapaagdaojpaaaGreatDoorQr
import Derived.Test.YtmapaagdaojpaaaGreatDoorQd
import Derived.Test.YtmapaagdaojpaaaGreatDoorQx
namespace Go.Proofs.YtmapaagdaojpaaaGreatDoor
open Go.RowKit

theorem word_bytes {s : ByteArray} (h : isWordB s = true) : s.size ≤ 60 ∧ ∀ j, j < s.size → wordP (bt s j) = true := by
  unfold isWordB at h
  simp only [Bool.and_eq_true, decide_eq_true_eq] at h
  exact ⟨h.1.2, fun j hj => (runTo_all s wordP _ 0 rfl (Nat.zero_le _)).1 h.2 j (Nat.zero_le _) hj⟩
/-- What Write answers. -/
def writeB (k : Int) (t : ByteArray) : ByteArray := if chkB k t = 0 then textB k t else ⟨#[]⟩
set_option maxHeartbeats 2000000 in
set_option maxRecDepth 100000 in
theorem Write_any (kind : Int) (text : ByteArray) (a : Int) (w : World) (hs : text.size ≤ 1000000) :
    Calls Tryz.prog 9 #[.agg #[.int .i64 kind, .string text, .int .i64 a]] w fun e w' => e = .returned (.tuple #[.string (writeB kind text), .int .i64 (chkB kind text)]) ∧ Below w.heap.size w w' := by
  have hC := fun w => Check_any kind text a w
  rcases chkB_code kind text with hc | hc
  · have HWB : Hid (writeB kind text = textB kind text) := Lib.hid (by unfold writeB; rw [if_pos hc])
    rw [hc] at hC ⊢
    clear hc
    by_cases k1 : kind = 1
    · subst k1
      have hq : ∀ w, Calls Tryz.prog 32 #[.string text, .int .u8 39] w fun e w' => e = .returned (.string (quotedB 39 text)) ∧ Below w.heap.size w w' := fun w => quoted_any text 39 (.inl rfl) w hs
      go_enter Tryz.func9, Tryz.ntmps9
      go_wp2_with fail
      have hT := heap_alloc_new w (.cells #[.int .i64 1, .string text, .int .i64 a] 27)
      have hbW : Below w.heap.size w (w.alloc (.cells #[.int .i64 1, .string text, .int .i64 a] 27)) := below_alloc1 _ _
      refine (hC _).mono ?_
      rintro e w1 ⟨rfl, hb⟩
      have hT1 := (hb.block w.heap.size (by simp)).trans hT
      have c0 : w1.cell? ⟨w.heap.size, 0, none⟩ = some (.int .i64 1) := by simp [World.cell?, hT1]
      have c1 : w1.cell? ⟨w.heap.size, 1, none⟩ = some (.string text) := by simp [World.cell?, hT1]
      have hb3 : Below w.heap.size w w1 := hbW.trans (hb.mono (by simp))
      clear hT hbW hb hT1 hC
      go_wp2_with fail
      refine (hq _).mono ?_
      rintro e w2 ⟨rfl, hb⟩
      go_wp2
      go_ret2
      exact ⟨by rw [HWB.out]; rfl, hb3.trans (hb.mono hb3.size)⟩
    by_cases k2 : kind = 2
    · subst k2
      have hq : ∀ w, Calls Tryz.prog 32 #[.string text, .int .u8 34] w fun e w' => e = .returned (.string (quotedB 34 text)) ∧ Below w.heap.size w w' := fun w => quoted_any text 34 (.inr rfl) w hs
      clear k1
      go_enter Tryz.func9, Tryz.ntmps9
      go_wp2_with fail
      have hT := heap_alloc_new w (.cells #[.int .i64 2, .string text, .int .i64 a] 27)
      have hbW : Below w.heap.size w (w.alloc (.cells #[.int .i64 2, .string text, .int .i64 a] 27)) := below_alloc1 _ _
      refine (hC _).mono ?_
      rintro e w1 ⟨rfl, hb⟩
      have hT1 := (hb.block w.heap.size (by simp)).trans hT
      have c0 : w1.cell? ⟨w.heap.size, 0, none⟩ = some (.int .i64 2) := by simp [World.cell?, hT1]
      have c1 : w1.cell? ⟨w.heap.size, 1, none⟩ = some (.string text) := by simp [World.cell?, hT1]
      have hb3 : Below w.heap.size w w1 := hbW.trans (hb.mono (by simp))
      clear hT hbW hb hT1 hC
      go_wp2_with fail
      refine (hq _).mono ?_
      rintro e w2 ⟨rfl, hb⟩
      go_wp2
      go_ret2
      exact ⟨by rw [HWB.out]; rfl, hb3.trans (hb.mono hb3.size)⟩
    have q1 : (kind == 1) = false := by simpa using k1
    have q2 : (kind == 2) = false := by simpa using k2
    have HX : Hid (textB kind text = text) := Lib.hid (by unfold textB; rw [if_neg k1, if_neg k2])
    clear k1 k2
    go_enter Tryz.func9, Tryz.ntmps9
    go_wp2_with fail
    have hT := heap_alloc_new w (.cells #[.int .i64 kind, .string text, .int .i64 a] 27)
    have hbW : Below w.heap.size w (w.alloc (.cells #[.int .i64 kind, .string text, .int .i64 a] 27)) := below_alloc1 _ _
    refine (hC _).mono ?_
    rintro e w1 ⟨rfl, hb⟩
    have hT1 := (hb.block w.heap.size (by simp)).trans hT
    have c0 : w1.cell? ⟨w.heap.size, 0, none⟩ = some (.int .i64 kind) := by simp [World.cell?, hT1]
    have c1 : w1.cell? ⟨w.heap.size, 1, none⟩ = some (.string text) := by simp [World.cell?, hT1]
    have hb3 : Below w.heap.size w w1 := hbW.trans (hb.mono (by simp))
    clear hT hbW hb hT1 hC
    go_wp2
    go_ret2
    exact ⟨by rw [HWB.out, HX.out]; rfl, hb3⟩
  · have HWB : Hid (writeB kind text = ⟨#[]⟩) := Lib.hid (by unfold writeB; rw [if_neg (by rw [hc]; decide)])
    rw [hc] at hC ⊢
    clear hc
    go_enter Tryz.func9, Tryz.ntmps9
    go_wp2_with fail
    have hbW : Below w.heap.size w (w.alloc (.cells #[.int .i64 kind, .string text, .int .i64 a] 27)) := below_alloc1 _ _
    refine (hC _).mono ?_
    rintro e w1 ⟨rfl, hb⟩
    have hb3 : Below w.heap.size w w1 := hbW.trans (hb.mono (by simp))
    clear hbW hb hC
    go_wp2
    go_ret2
    exact ⟨by rw [HWB.out]; rfl, hb3⟩
set_option maxHeartbeats 2000000 in
set_option maxRecDepth 100000 in
theorem rWrite_any (kind : Int) (text : ByteArray) (a : Int) (w : World) (hs : text.size ≤ 1000000) :
    Calls Tryz.prog 10 #[.agg #[.int .i64 kind, .string text, .int .i64 a]] w fun e w' => e = .returned (.tuple #[.string (writeB kind text), .int .i64 (chkB kind text)]) ∧ Below w.heap.size w w' := by
  have hC := fun w => rCheck_any kind text a w hs
  rw [chkR_eq] at hC
  rcases chkB_code kind text with hc | hc
  · have HWB : Hid (writeB kind text = textB kind text) := Lib.hid (by unfold writeB; rw [if_pos hc])
    have HC := Lib.hid hc
    rw [hc] at hC ⊢
    clear hc
    by_cases k1 : kind = 1
    · subst k1
      have hq : ∀ w, Calls Tryz.prog 33 #[.string text] w fun e w' => e = .returned (.string (quotedB 39 text)) ∧ w' = w := fun w => rQuoted_any text w hs
      go_enter Tryz.func10, Tryz.ntmps10
      go_wp2_with fail
      have hT := heap_alloc_new w (.cells #[.int .i64 1, .string text, .int .i64 a] 32)
      have hbW : Below w.heap.size w (w.alloc (.cells #[.int .i64 1, .string text, .int .i64 a] 32)) := below_alloc1 _ _
      refine (hC _).mono ?_
      rintro e w1 ⟨rfl, hb⟩
      have hT1 := (hb.block w.heap.size (by simp)).trans hT
      have c0 : w1.cell? ⟨w.heap.size, 0, none⟩ = some (.int .i64 1) := by simp [World.cell?, hT1]
      have c1 : w1.cell? ⟨w.heap.size, 1, none⟩ = some (.string text) := by simp [World.cell?, hT1]
      have hb3 : Below w.heap.size w w1 := hbW.trans (hb.mono (by simp))
      clear hT hbW hb hT1 hC
      go_wp2_with fail
      refine (hq _).mono ?_
      rintro e w2 ⟨rfl, rfl⟩
      go_wp2
      go_ret2
      exact ⟨by rw [HWB.out]; rfl, hb3⟩
    by_cases k2 : kind = 2
    · subst k2
      have hwd : isWordB text = true := by
        have := HC.out
        unfold chkB at this
        by_cases e : okB 2 text = true
        · exact e
        · rw [if_neg e] at this; cases this
      have hq : ∀ w, Calls Tryz.prog 34 #[.string text] w fun e w' => e = .returned (.string (quotedB 34 text)) ∧ w' = w := fun w => rquoted_any text w hs (word_bytes hwd).2
      clear k1 hwd
      go_enter Tryz.func10, Tryz.ntmps10
      go_wp2_with fail
      have hT := heap_alloc_new w (.cells #[.int .i64 2, .string text, .int .i64 a] 32)
      have hbW : Below w.heap.size w (w.alloc (.cells #[.int .i64 2, .string text, .int .i64 a] 32)) := below_alloc1 _ _
      refine (hC _).mono ?_
      rintro e w1 ⟨rfl, hb⟩
      have hT1 := (hb.block w.heap.size (by simp)).trans hT
      have c0 : w1.cell? ⟨w.heap.size, 0, none⟩ = some (.int .i64 2) := by simp [World.cell?, hT1]
      have c1 : w1.cell? ⟨w.heap.size, 1, none⟩ = some (.string text) := by simp [World.cell?, hT1]
      have hb3 : Below w.heap.size w w1 := hbW.trans (hb.mono (by simp))
      clear hT hbW hb hT1 hC
      go_wp2_with fail
      refine (hq _).mono ?_
      rintro e w2 ⟨rfl, rfl⟩
      go_wp2
      go_ret2
      exact ⟨by rw [HWB.out]; rfl, hb3⟩
    have q1 : (kind == 1) = false := by simpa using k1
    have q2 : (kind == 2) = false := by simpa using k2
    have HX : Hid (textB kind text = text) := Lib.hid (by unfold textB; rw [if_neg k1, if_neg k2])
    clear k1 k2
    go_enter Tryz.func10, Tryz.ntmps10
    go_wp2_with fail
    have hT := heap_alloc_new w (.cells #[.int .i64 kind, .string text, .int .i64 a] 32)
    have hbW : Below w.heap.size w (w.alloc (.cells #[.int .i64 kind, .string text, .int .i64 a] 32)) := below_alloc1 _ _
    refine (hC _).mono ?_
    rintro e w1 ⟨rfl, hb⟩
    have hT1 := (hb.block w.heap.size (by simp)).trans hT
    have c0 : w1.cell? ⟨w.heap.size, 0, none⟩ = some (.int .i64 kind) := by simp [World.cell?, hT1]
    have c1 : w1.cell? ⟨w.heap.size, 1, none⟩ = some (.string text) := by simp [World.cell?, hT1]
    have hb3 : Below w.heap.size w w1 := hbW.trans (hb.mono (by simp))
    clear hT hbW hb hT1 hC
    go_wp2
    go_ret2
    exact ⟨by rw [HWB.out, HX.out]; rfl, hb3⟩
  · have HWB : Hid (writeB kind text = ⟨#[]⟩) := Lib.hid (by unfold writeB; rw [if_neg (by rw [hc]; decide)])
    rw [hc] at hC ⊢
    clear hc
    go_enter Tryz.func10, Tryz.ntmps10
    go_wp2_with fail
    have hbW : Below w.heap.size w (w.alloc (.cells #[.int .i64 kind, .string text, .int .i64 a] 32)) := below_alloc1 _ _
    refine (hC _).mono ?_
    rintro e w1 ⟨rfl, hb⟩
    have hb3 : Below w.heap.size w w1 := hbW.trans (hb.mono (by simp))
    clear hbW hb hC
    go_wp2
    go_ret2
    exact ⟨by rw [HWB.out]; rfl, hb3⟩
end Go.Proofs.YtmapaagdaojpaaaGreatDoor
