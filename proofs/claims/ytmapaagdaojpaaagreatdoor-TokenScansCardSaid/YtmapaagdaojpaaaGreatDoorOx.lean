/- The reference's one: a token. The reference's one, more: keywords and variables. The reference's one, more: names. The reference's one, more: numbers and nothing. The reference's one. -/
import Derived.Test.YtmapaagdaojpaaaGreatDoorRo
import Derived.Test.YtmapaagdaojpaaaGreatDoorRq
namespace Go.Proofs.YtmapaagdaojpaaaGreatDoor
open Go.RowKit

theorem two_alloc (w : World) (a b : Obj) : ((w.alloc a).alloc b).heap[w.heap.size]? = some a ∧ ((w.alloc a).alloc b).heap[w.heap.size + 1]? = some b ∧ Below w.heap.size w ((w.alloc a).alloc b) ∧ ((w.alloc a).alloc b).heap.size = w.heap.size + 2 := by
  refine ⟨?_, ?_, (below_alloc1 w a).alloc (by simp) b, by simp⟩
  · exact (Below.heap_alloc _ _ _ (by simp)).trans (heap_alloc_new w a)
  · have := heap_alloc_new (w.alloc a) b
    simpa using this
theorem quo_len (s : ByteArray) (mark : Int) : ∀ (n i : Nat) (out out' : List UInt8) (fin : Nat), quoN s mark n i out = .ok out' fin → out'.length + i ≤ out.length + fin
  | 0, i, out, out', fin, h => by simp [quoN] at h
  | n + 1, i, out, out', fin, h => by
    unfold quoN at h
    split at h
    · cases h; omega
    · split at h
      · cases h
      · split at h
        · have := quo_len s mark n _ _ _ _ h; simp at this; omega
        · split at h
          · have := quo_len s mark n _ _ _ _ h; simp at this; omega
          · split at h
            · cases h
            · split at h
              · have := quo_len s mark n _ _ _ _ h; simp at this; omega
              · cases h
theorem quo_len34 (s : ByteArray) (n i : Nat) (out' : List UInt8) (fin : Nat) (h : quoN s 34 n i [] = .ok out' fin) : out'.length ≤ s.size := by
  have h1 := quo_len s 34 n i [] out' fin h
  have h2 := quo_le s 34 (by decide) n i [] out' fin h
  simp at h1; omega
set_option maxHeartbeats 4000000 in
set_option maxRecDepth 100000 in
theorem one_q39 (s : ByteArray) (i : Nat) (w : World) (hs : s.size ≤ 1000000) (hi : i < s.size) (hmk : bt s i = 39) (R : TokR) (hR : tokN s i = R) :
    Calls Tryz.prog 52 #[.string s, .int .i64 i] w fun e w' => e = .returned (oneV i R) ∧ Below w.heap.size w w' := by
  have HR := Lib.hid hR
  clear hR
  have hb0 := bt_lo s i
  have hb1 := bt_hi s i
  have l2 : decide (i < s.size) = true := decide_eq_true hi
  have wi : IntKind.i64.wrap ((i : Int) + 1) = i + 1 := IntWalk.i64_in _ (by omega)
  have wi2 : IntKind.i64.wrap ((i : Int) + 2) = i + 2 := IntWalk.i64_in _ (by omega)
  have HX : Hid (((s[i]'hi).toNat : Int) = bt s i) := bt_in hi
  have b39 : (((s[i]'hi).toNat : Int) == 39) = true := by rw [HX.out]; exact beq_iff_eq.2 (by omega)
  have HRQ : Hid (quoR 39 i (quoN s 39 (s.size - i) (i + 1) []) = R) := Lib.hid (by have := tok_quo HR.out (by omega); rwa [hmk] at this)
  have hQ := fun w => rquotation_any s i 39 w hs hi hmk (by omega) (quoN s 39 (s.size - i) (i + 1) []) (s.size - i) (by omega) rfl
  generalize quoN s 39 (s.size - i) (i + 1) [] = QR at *
  clear hmk hb0 hb1
  by_cases hi1 : i + 1 < s.size
  · have l3 : decide ((i : Int) + 1 < (s.size : Int)) = true := decide_eq_true (by omega)
    have l4 : decide (i + 1 < s.size) = true := decide_eq_true hi1
    cases QR with
    | bad =>
      simp only [quoV] at hQ
      go_enter Tryz.func52, Tryz.ntmps52
      go_wp2_with fail
      generalize hW : World.alloc (World.alloc w _) _ = W
      have hZ : W.heap[w.heap.size]? = some (.cells rTok 32 (0, 0)) := by rw [← hW]; exact (two_alloc w _ _).1
      have hE : W.heap[w.heap.size + 1]? = some (.cells (eCells 0 0) 86 (0, 0)) := by rw [← hW]; exact (two_alloc w _ _).2.1
      have HB : Hid (Below w.heap.size w W) := Lib.hid (by rw [← hW]; exact (two_alloc w _ _).2.2.1)
      have hwz : w.heap.size + 2 ≤ W.heap.size := by rw [← hW, (two_alloc w _ _).2.2.2]; omega
      clear hW
      refine (hQ _).mono ?_
      rintro e w8 ⟨rfl, hb⟩
      have hZ := (hb.block _ (by omega)).trans hZ
      have hE := (hb.block _ (by omega)).trans hE
      have HB : Hid (Below w.heap.size w w8) := Lib.hid (HB.out.trans (hb.mono (by omega)))
      have hwz : w.heap.size + 2 ≤ w8.heap.size := by have := hb.size; omega
      clear hb
      clear hQ
      have HD : Hid (R = .bad 41 i) := Lib.hid HRQ.out.symm
      go_wp2_with (first | (refine wpList_store_row rfl 32 (.tmp 4) (.tmp 42) rfl (w.heap.size) (rTok) rfl rfl 32 rTok hZ (info_rt _ rfl) rfl (rt_cells _ _ _) ?_) | (refine wpList_store_row rfl 86 (.tmp 6) (.tmp 45) rfl (w.heap.size + 1) (eCells i 41) rfl rfl 86 (eCells 0 0) (by exact (setRow_other _ _ _ _ (by omega)).trans hE) (info_e _ rfl) rfl (e_cells _ _) ?_))
      obtain ⟨f1, f2⟩ := rows_two (W := _) (p := w.heap.size) (q := w.heap.size + 1) (by omega) (c1 := rTok) (c2 := eCells i 41) hZ hE
      refine bodyPost_ret (v := .tuple #[.agg (rTok), .int .i64 i, .agg (eCells i 41)]) ?_ rfl ?_
      · exact results_row_tmp_row rfl _ _ (w.heap.size) (w.heap.size + 1) 32 86 (rTok) (eCells i 41) (0, 0) (0, 0) _ _ _ rfl rfl rfl f1 f2 Tryz.underlying32 rfl (info_rt _ rfl) Tryz.underlying86 rfl (info_e _ rfl)
      exact ⟨by rw [HD.out]; rfl, rows_below HB.out (by omega) (by omega) _ _⟩
    | ok out fin =>
      simp only [quoV] at hQ
      go_enter Tryz.func52, Tryz.ntmps52
      go_wp2_with fail
      generalize hW : World.alloc (World.alloc w _) _ = W
      have hZ : W.heap[w.heap.size]? = some (.cells rTok 32 (0, 0)) := by rw [← hW]; exact (two_alloc w _ _).1
      have hE : W.heap[w.heap.size + 1]? = some (.cells (eCells 0 0) 86 (0, 0)) := by rw [← hW]; exact (two_alloc w _ _).2.1
      have HB : Hid (Below w.heap.size w W) := Lib.hid (by rw [← hW]; exact (two_alloc w _ _).2.2.1)
      have hwz : w.heap.size + 2 ≤ W.heap.size := by rw [← hW, (two_alloc w _ _).2.2.2]; omega
      clear hW
      refine (hQ _).mono ?_
      rintro e w8 ⟨rfl, hb⟩
      have hZ := (hb.block _ (by omega)).trans hZ
      have hE := (hb.block _ (by omega)).trans hE
      have HB : Hid (Below w.heap.size w w8) := Lib.hid (HB.out.trans (hb.mono (by omega)))
      have hwz : w.heap.size + 2 ≤ w8.heap.size := by have := hb.size; omega
      clear hb
      clear hQ
      have g0 : decide ((fin : Int) < 0) = false := decide_eq_false (by omega)
      have HD : Hid (R = .ok 1 ⟨out.toArray⟩ fin) := Lib.hid HRQ.out.symm
      generalize (⟨out.toArray⟩ : ByteArray) = T at *
      go_wp2_with (first | (refine wpList_store_row rfl 32 (.tmp 4) (.tmp 50) rfl (w.heap.size) (rtCells 1 T i) rfl rfl 32 rTok hZ (info_rt _ rfl) rfl (rt_cells _ _ _) ?_) | (refine wpList_store_row rfl 86 (.tmp 6) (.tmp 52) rfl (w.heap.size + 1) (eCells 0 0) rfl rfl 86 (eCells 0 0) (by exact (setRow_other _ _ _ _ (by omega)).trans hE) (info_e _ rfl) rfl (e_cells _ _) ?_))
      obtain ⟨f1, f2⟩ := rows_two (W := _) (p := w.heap.size) (q := w.heap.size + 1) (by omega) (c1 := rtCells 1 T i) (c2 := eCells 0 0) hZ hE
      refine bodyPost_ret (v := .tuple #[.agg (rtCells 1 T i), .int .i64 fin, .agg (eCells 0 0)]) ?_ rfl ?_
      · exact results_row_tmp_row rfl _ _ (w.heap.size) (w.heap.size + 1) 32 86 (rtCells 1 T i) (eCells 0 0) (0, 0) (0, 0) _ _ _ rfl rfl rfl f1 f2 Tryz.underlying32 rfl (info_rt _ rfl) Tryz.underlying86 rfl (info_e _ rfl)
      exact ⟨by rw [HD.out]; rfl, rows_below HB.out (by omega) (by omega) _ _⟩
  · have l3 : decide ((i : Int) + 1 < (s.size : Int)) = false := decide_eq_false (by omega)
    cases QR with
    | bad =>
      simp only [quoV] at hQ
      go_enter Tryz.func52, Tryz.ntmps52
      go_wp2_with fail
      generalize hW : World.alloc (World.alloc w _) _ = W
      have hZ : W.heap[w.heap.size]? = some (.cells rTok 32 (0, 0)) := by rw [← hW]; exact (two_alloc w _ _).1
      have hE : W.heap[w.heap.size + 1]? = some (.cells (eCells 0 0) 86 (0, 0)) := by rw [← hW]; exact (two_alloc w _ _).2.1
      have HB : Hid (Below w.heap.size w W) := Lib.hid (by rw [← hW]; exact (two_alloc w _ _).2.2.1)
      have hwz : w.heap.size + 2 ≤ W.heap.size := by rw [← hW, (two_alloc w _ _).2.2.2]; omega
      clear hW
      refine (hQ _).mono ?_
      rintro e w8 ⟨rfl, hb⟩
      have hZ := (hb.block _ (by omega)).trans hZ
      have hE := (hb.block _ (by omega)).trans hE
      have HB : Hid (Below w.heap.size w w8) := Lib.hid (HB.out.trans (hb.mono (by omega)))
      have hwz : w.heap.size + 2 ≤ w8.heap.size := by have := hb.size; omega
      clear hb
      clear hQ
      have HD : Hid (R = .bad 41 i) := Lib.hid HRQ.out.symm
      go_wp2_with (first | (refine wpList_store_row rfl 32 (.tmp 4) (.tmp 42) rfl (w.heap.size) (rTok) rfl rfl 32 rTok hZ (info_rt _ rfl) rfl (rt_cells _ _ _) ?_) | (refine wpList_store_row rfl 86 (.tmp 6) (.tmp 45) rfl (w.heap.size + 1) (eCells i 41) rfl rfl 86 (eCells 0 0) (by exact (setRow_other _ _ _ _ (by omega)).trans hE) (info_e _ rfl) rfl (e_cells _ _) ?_))
      obtain ⟨f1, f2⟩ := rows_two (W := _) (p := w.heap.size) (q := w.heap.size + 1) (by omega) (c1 := rTok) (c2 := eCells i 41) hZ hE
      refine bodyPost_ret (v := .tuple #[.agg (rTok), .int .i64 i, .agg (eCells i 41)]) ?_ rfl ?_
      · exact results_row_tmp_row rfl _ _ (w.heap.size) (w.heap.size + 1) 32 86 (rTok) (eCells i 41) (0, 0) (0, 0) _ _ _ rfl rfl rfl f1 f2 Tryz.underlying32 rfl (info_rt _ rfl) Tryz.underlying86 rfl (info_e _ rfl)
      exact ⟨by rw [HD.out]; rfl, rows_below HB.out (by omega) (by omega) _ _⟩
    | ok out fin =>
      simp only [quoV] at hQ
      go_enter Tryz.func52, Tryz.ntmps52
      go_wp2_with fail
      generalize hW : World.alloc (World.alloc w _) _ = W
      have hZ : W.heap[w.heap.size]? = some (.cells rTok 32 (0, 0)) := by rw [← hW]; exact (two_alloc w _ _).1
      have hE : W.heap[w.heap.size + 1]? = some (.cells (eCells 0 0) 86 (0, 0)) := by rw [← hW]; exact (two_alloc w _ _).2.1
      have HB : Hid (Below w.heap.size w W) := Lib.hid (by rw [← hW]; exact (two_alloc w _ _).2.2.1)
      have hwz : w.heap.size + 2 ≤ W.heap.size := by rw [← hW, (two_alloc w _ _).2.2.2]; omega
      clear hW
      refine (hQ _).mono ?_
      rintro e w8 ⟨rfl, hb⟩
      have hZ := (hb.block _ (by omega)).trans hZ
      have hE := (hb.block _ (by omega)).trans hE
      have HB : Hid (Below w.heap.size w w8) := Lib.hid (HB.out.trans (hb.mono (by omega)))
      have hwz : w.heap.size + 2 ≤ w8.heap.size := by have := hb.size; omega
      clear hb
      clear hQ
      have g0 : decide ((fin : Int) < 0) = false := decide_eq_false (by omega)
      have HD : Hid (R = .ok 1 ⟨out.toArray⟩ fin) := Lib.hid HRQ.out.symm
      generalize (⟨out.toArray⟩ : ByteArray) = T at *
      go_wp2_with (first | (refine wpList_store_row rfl 32 (.tmp 4) (.tmp 50) rfl (w.heap.size) (rtCells 1 T i) rfl rfl 32 rTok hZ (info_rt _ rfl) rfl (rt_cells _ _ _) ?_) | (refine wpList_store_row rfl 86 (.tmp 6) (.tmp 52) rfl (w.heap.size + 1) (eCells 0 0) rfl rfl 86 (eCells 0 0) (by exact (setRow_other _ _ _ _ (by omega)).trans hE) (info_e _ rfl) rfl (e_cells _ _) ?_))
      obtain ⟨f1, f2⟩ := rows_two (W := _) (p := w.heap.size) (q := w.heap.size + 1) (by omega) (c1 := rtCells 1 T i) (c2 := eCells 0 0) hZ hE
      refine bodyPost_ret (v := .tuple #[.agg (rtCells 1 T i), .int .i64 fin, .agg (eCells 0 0)]) ?_ rfl ?_
      · exact results_row_tmp_row rfl _ _ (w.heap.size) (w.heap.size + 1) 32 86 (rtCells 1 T i) (eCells 0 0) (0, 0) (0, 0) _ _ _ rfl rfl rfl f1 f2 Tryz.underlying32 rfl (info_rt _ rfl) Tryz.underlying86 rfl (info_e _ rfl)
      exact ⟨by rw [HD.out]; rfl, rows_below HB.out (by omega) (by omega) _ _⟩
set_option maxHeartbeats 4000000 in
set_option maxRecDepth 100000 in
theorem one_q34 (s : ByteArray) (i : Nat) (w : World) (hs : s.size ≤ 1000000) (hi : i < s.size) (hmk : bt s i = 34) (R : TokR) (hR : tokN s i = R) :
    Calls Tryz.prog 52 #[.string s, .int .i64 i] w fun e w' => e = .returned (oneV i R) ∧ Below w.heap.size w w' := by
  have HR := Lib.hid hR
  clear hR
  have hb0 := bt_lo s i
  have hb1 := bt_hi s i
  have l2 : decide (i < s.size) = true := decide_eq_true hi
  have wi : IntKind.i64.wrap ((i : Int) + 1) = i + 1 := IntWalk.i64_in _ (by omega)
  have wi2 : IntKind.i64.wrap ((i : Int) + 2) = i + 2 := IntWalk.i64_in _ (by omega)
  have HX : Hid (((s[i]'hi).toNat : Int) = bt s i) := bt_in hi
  have b39 : (((s[i]'hi).toNat : Int) == 39) = false := by rw [HX.out]; exact beq_eq_false_iff_ne.2 (by omega)
  have b34 : (((s[i]'hi).toNat : Int) == 34) = true := by rw [HX.out]; exact beq_iff_eq.2 (by omega)
  have HRQ : Hid (quoR 34 i (quoN s 34 (s.size - i) (i + 1) []) = R) := Lib.hid (by have := tok_quo HR.out (by omega); rwa [hmk] at this)
  have hQ := fun w => rquotation_any s i 34 w hs hi hmk (by omega) (quoN s 34 (s.size - i) (i + 1) []) (s.size - i) (by omega) rfl
  have HWD := Lib.hid fun (out : List UInt8) (fin : Nat) (h : quoN s 34 (s.size - i) (i + 1) [] = .ok out fin) => (⟨quo_isWord h, quo_len34 s _ _ _ _ h⟩ : isWordB ⟨out.toArray⟩ = decide (¬ (out.length < 1 ∨ 60 < out.length)) ∧ out.length ≤ s.size)
  generalize quoN s 34 (s.size - i) (i + 1) [] = QR at *
  clear hmk hb0 hb1
  by_cases hi1 : i + 1 < s.size
  · have l3 : decide ((i : Int) + 1 < (s.size : Int)) = true := decide_eq_true (by omega)
    have l4 : decide (i + 1 < s.size) = true := decide_eq_true hi1
    cases QR with
    | bad =>
      simp only [quoV] at hQ
      go_enter Tryz.func52, Tryz.ntmps52
      go_wp2_with fail
      generalize hW : World.alloc (World.alloc w _) _ = W
      have hZ : W.heap[w.heap.size]? = some (.cells rTok 32 (0, 0)) := by rw [← hW]; exact (two_alloc w _ _).1
      have hE : W.heap[w.heap.size + 1]? = some (.cells (eCells 0 0) 86 (0, 0)) := by rw [← hW]; exact (two_alloc w _ _).2.1
      have HB : Hid (Below w.heap.size w W) := Lib.hid (by rw [← hW]; exact (two_alloc w _ _).2.2.1)
      have hwz : w.heap.size + 2 ≤ W.heap.size := by rw [← hW, (two_alloc w _ _).2.2.2]; omega
      clear hW
      refine (hQ _).mono ?_
      rintro e w8 ⟨rfl, hb⟩
      have hZ := (hb.block _ (by omega)).trans hZ
      have hE := (hb.block _ (by omega)).trans hE
      have HB : Hid (Below w.heap.size w w8) := Lib.hid (HB.out.trans (hb.mono (by omega)))
      have hwz : w.heap.size + 2 ≤ w8.heap.size := by have := hb.size; omega
      clear hb
      clear hQ
      have HD : Hid (R = .bad 41 i) := Lib.hid HRQ.out.symm
      go_wp2_with (first | (refine wpList_store_row rfl 32 (.tmp 4) (.tmp 42) rfl (w.heap.size) (rTok) rfl rfl 32 rTok hZ (info_rt _ rfl) rfl (rt_cells _ _ _) ?_) | (refine wpList_store_row rfl 86 (.tmp 6) (.tmp 45) rfl (w.heap.size + 1) (eCells i 41) rfl rfl 86 (eCells 0 0) (by exact (setRow_other _ _ _ _ (by omega)).trans hE) (info_e _ rfl) rfl (e_cells _ _) ?_))
      obtain ⟨f1, f2⟩ := rows_two (W := _) (p := w.heap.size) (q := w.heap.size + 1) (by omega) (c1 := rTok) (c2 := eCells i 41) hZ hE
      refine bodyPost_ret (v := .tuple #[.agg (rTok), .int .i64 i, .agg (eCells i 41)]) ?_ rfl ?_
      · exact results_row_tmp_row rfl _ _ (w.heap.size) (w.heap.size + 1) 32 86 (rTok) (eCells i 41) (0, 0) (0, 0) _ _ _ rfl rfl rfl f1 f2 Tryz.underlying32 rfl (info_rt _ rfl) Tryz.underlying86 rfl (info_e _ rfl)
      exact ⟨by rw [HD.out]; rfl, rows_below HB.out (by omega) (by omega) _ _⟩
    | ok out fin =>
      simp only [quoV] at hQ
      go_enter Tryz.func52, Tryz.ntmps52
      go_wp2_with fail
      generalize hW : World.alloc (World.alloc w _) _ = W
      have hZ : W.heap[w.heap.size]? = some (.cells rTok 32 (0, 0)) := by rw [← hW]; exact (two_alloc w _ _).1
      have hE : W.heap[w.heap.size + 1]? = some (.cells (eCells 0 0) 86 (0, 0)) := by rw [← hW]; exact (two_alloc w _ _).2.1
      have HB : Hid (Below w.heap.size w W) := Lib.hid (by rw [← hW]; exact (two_alloc w _ _).2.2.1)
      have hwz : w.heap.size + 2 ≤ W.heap.size := by rw [← hW, (two_alloc w _ _).2.2.2]; omega
      clear hW
      refine (hQ _).mono ?_
      rintro e w8 ⟨rfl, hb⟩
      have hZ := (hb.block _ (by omega)).trans hZ
      have hE := (hb.block _ (by omega)).trans hE
      have HB : Hid (Below w.heap.size w w8) := Lib.hid (HB.out.trans (hb.mono (by omega)))
      have hwz : w.heap.size + 2 ≤ w8.heap.size := by have := hb.size; omega
      clear hb
      clear hQ
      have g0 : decide ((fin : Int) < 0) = false := decide_eq_false (by omega)
      have HR2 : Hid (R = if out.length < 1 ∨ 60 < out.length then .bad 43 i else .ok 2 ⟨out.toArray⟩ fin) := Lib.hid HRQ.out.symm
      obtain ⟨hwd, hol⟩ := HWD.out out fin rfl
      have hIW := fun w => rIsWord_any ⟨out.toArray⟩ w (by rw [show (⟨out.toArray⟩ : ByteArray).size = out.length from List.size_toArray ..]; omega)
      rw [hwd] at hIW
      clear hwd HWD HRQ
      generalize (⟨out.toArray⟩ : ByteArray) = T at *
      by_cases hln : out.length < 1 ∨ 60 < out.length
      · have HD : Hid (R = .bad 43 i) := Lib.hid (by rw [HR2.out, if_pos hln])
        rw [decide_eq_false (fun q => q hln)] at hIW
        clear hln HR2
        go_wp2_with (first | (go_at_call 38; refine (hIW _).mono ?_; rintro e w9 ⟨rfl, rfl⟩) | (refine wpList_store_row rfl 32 (.tmp 4) (.tmp 56) rfl (w.heap.size) (rTok) rfl rfl 32 rTok hZ (info_rt _ rfl) rfl (rt_cells _ _ _) ?_) | (refine wpList_store_row rfl 86 (.tmp 6) (.tmp 59) rfl (w.heap.size + 1) (eCells i 43) rfl rfl 86 (eCells 0 0) (by exact (setRow_other _ _ _ _ (by omega)).trans hE) (info_e _ rfl) rfl (e_cells _ _) ?_))
        obtain ⟨f1, f2⟩ := rows_two (W := _) (p := w.heap.size) (q := w.heap.size + 1) (by omega) (c1 := rTok) (c2 := eCells i 43) hZ hE
        refine bodyPost_ret (v := .tuple #[.agg (rTok), .int .i64 i, .agg (eCells i 43)]) ?_ rfl ?_
        · exact results_row_tmp_row rfl _ _ (w.heap.size) (w.heap.size + 1) 32 86 (rTok) (eCells i 43) (0, 0) (0, 0) _ _ _ rfl rfl rfl f1 f2 Tryz.underlying32 rfl (info_rt _ rfl) Tryz.underlying86 rfl (info_e _ rfl)
        exact ⟨by rw [HD.out]; rfl, rows_below HB.out (by omega) (by omega) _ _⟩
      · have HD : Hid (R = .ok 2 T fin) := Lib.hid (by rw [HR2.out, if_neg hln])
        rw [decide_eq_true hln] at hIW
        clear hln HR2
        go_wp2_with (first | (go_at_call 38; refine (hIW _).mono ?_; rintro e w9 ⟨rfl, rfl⟩) | (refine wpList_store_row rfl 32 (.tmp 4) (.tmp 62) rfl (w.heap.size) (rtCells 2 T i) rfl rfl 32 rTok hZ (info_rt _ rfl) rfl (rt_cells _ _ _) ?_) | (refine wpList_store_row rfl 86 (.tmp 6) (.tmp 64) rfl (w.heap.size + 1) (eCells 0 0) rfl rfl 86 (eCells 0 0) (by exact (setRow_other _ _ _ _ (by omega)).trans hE) (info_e _ rfl) rfl (e_cells _ _) ?_))
        obtain ⟨f1, f2⟩ := rows_two (W := _) (p := w.heap.size) (q := w.heap.size + 1) (by omega) (c1 := rtCells 2 T i) (c2 := eCells 0 0) hZ hE
        refine bodyPost_ret (v := .tuple #[.agg (rtCells 2 T i), .int .i64 fin, .agg (eCells 0 0)]) ?_ rfl ?_
        · exact results_row_tmp_row rfl _ _ (w.heap.size) (w.heap.size + 1) 32 86 (rtCells 2 T i) (eCells 0 0) (0, 0) (0, 0) _ _ _ rfl rfl rfl f1 f2 Tryz.underlying32 rfl (info_rt _ rfl) Tryz.underlying86 rfl (info_e _ rfl)
        exact ⟨by rw [HD.out]; rfl, rows_below HB.out (by omega) (by omega) _ _⟩
  · have l3 : decide ((i : Int) + 1 < (s.size : Int)) = false := decide_eq_false (by omega)
    cases QR with
    | bad =>
      simp only [quoV] at hQ
      go_enter Tryz.func52, Tryz.ntmps52
      go_wp2_with fail
      generalize hW : World.alloc (World.alloc w _) _ = W
      have hZ : W.heap[w.heap.size]? = some (.cells rTok 32 (0, 0)) := by rw [← hW]; exact (two_alloc w _ _).1
      have hE : W.heap[w.heap.size + 1]? = some (.cells (eCells 0 0) 86 (0, 0)) := by rw [← hW]; exact (two_alloc w _ _).2.1
      have HB : Hid (Below w.heap.size w W) := Lib.hid (by rw [← hW]; exact (two_alloc w _ _).2.2.1)
      have hwz : w.heap.size + 2 ≤ W.heap.size := by rw [← hW, (two_alloc w _ _).2.2.2]; omega
      clear hW
      refine (hQ _).mono ?_
      rintro e w8 ⟨rfl, hb⟩
      have hZ := (hb.block _ (by omega)).trans hZ
      have hE := (hb.block _ (by omega)).trans hE
      have HB : Hid (Below w.heap.size w w8) := Lib.hid (HB.out.trans (hb.mono (by omega)))
      have hwz : w.heap.size + 2 ≤ w8.heap.size := by have := hb.size; omega
      clear hb
      clear hQ
      have HD : Hid (R = .bad 41 i) := Lib.hid HRQ.out.symm
      go_wp2_with (first | (refine wpList_store_row rfl 32 (.tmp 4) (.tmp 42) rfl (w.heap.size) (rTok) rfl rfl 32 rTok hZ (info_rt _ rfl) rfl (rt_cells _ _ _) ?_) | (refine wpList_store_row rfl 86 (.tmp 6) (.tmp 45) rfl (w.heap.size + 1) (eCells i 41) rfl rfl 86 (eCells 0 0) (by exact (setRow_other _ _ _ _ (by omega)).trans hE) (info_e _ rfl) rfl (e_cells _ _) ?_))
      obtain ⟨f1, f2⟩ := rows_two (W := _) (p := w.heap.size) (q := w.heap.size + 1) (by omega) (c1 := rTok) (c2 := eCells i 41) hZ hE
      refine bodyPost_ret (v := .tuple #[.agg (rTok), .int .i64 i, .agg (eCells i 41)]) ?_ rfl ?_
      · exact results_row_tmp_row rfl _ _ (w.heap.size) (w.heap.size + 1) 32 86 (rTok) (eCells i 41) (0, 0) (0, 0) _ _ _ rfl rfl rfl f1 f2 Tryz.underlying32 rfl (info_rt _ rfl) Tryz.underlying86 rfl (info_e _ rfl)
      exact ⟨by rw [HD.out]; rfl, rows_below HB.out (by omega) (by omega) _ _⟩
    | ok out fin =>
      simp only [quoV] at hQ
      go_enter Tryz.func52, Tryz.ntmps52
      go_wp2_with fail
      generalize hW : World.alloc (World.alloc w _) _ = W
      have hZ : W.heap[w.heap.size]? = some (.cells rTok 32 (0, 0)) := by rw [← hW]; exact (two_alloc w _ _).1
      have hE : W.heap[w.heap.size + 1]? = some (.cells (eCells 0 0) 86 (0, 0)) := by rw [← hW]; exact (two_alloc w _ _).2.1
      have HB : Hid (Below w.heap.size w W) := Lib.hid (by rw [← hW]; exact (two_alloc w _ _).2.2.1)
      have hwz : w.heap.size + 2 ≤ W.heap.size := by rw [← hW, (two_alloc w _ _).2.2.2]; omega
      clear hW
      refine (hQ _).mono ?_
      rintro e w8 ⟨rfl, hb⟩
      have hZ := (hb.block _ (by omega)).trans hZ
      have hE := (hb.block _ (by omega)).trans hE
      have HB : Hid (Below w.heap.size w w8) := Lib.hid (HB.out.trans (hb.mono (by omega)))
      have hwz : w.heap.size + 2 ≤ w8.heap.size := by have := hb.size; omega
      clear hb
      clear hQ
      have g0 : decide ((fin : Int) < 0) = false := decide_eq_false (by omega)
      have HR2 : Hid (R = if out.length < 1 ∨ 60 < out.length then .bad 43 i else .ok 2 ⟨out.toArray⟩ fin) := Lib.hid HRQ.out.symm
      obtain ⟨hwd, hol⟩ := HWD.out out fin rfl
      have hIW := fun w => rIsWord_any ⟨out.toArray⟩ w (by rw [show (⟨out.toArray⟩ : ByteArray).size = out.length from List.size_toArray ..]; omega)
      rw [hwd] at hIW
      clear hwd HWD HRQ
      generalize (⟨out.toArray⟩ : ByteArray) = T at *
      by_cases hln : out.length < 1 ∨ 60 < out.length
      · have HD : Hid (R = .bad 43 i) := Lib.hid (by rw [HR2.out, if_pos hln])
        rw [decide_eq_false (fun q => q hln)] at hIW
        clear hln HR2
        go_wp2_with (first | (go_at_call 38; refine (hIW _).mono ?_; rintro e w9 ⟨rfl, rfl⟩) | (refine wpList_store_row rfl 32 (.tmp 4) (.tmp 56) rfl (w.heap.size) (rTok) rfl rfl 32 rTok hZ (info_rt _ rfl) rfl (rt_cells _ _ _) ?_) | (refine wpList_store_row rfl 86 (.tmp 6) (.tmp 59) rfl (w.heap.size + 1) (eCells i 43) rfl rfl 86 (eCells 0 0) (by exact (setRow_other _ _ _ _ (by omega)).trans hE) (info_e _ rfl) rfl (e_cells _ _) ?_))
        obtain ⟨f1, f2⟩ := rows_two (W := _) (p := w.heap.size) (q := w.heap.size + 1) (by omega) (c1 := rTok) (c2 := eCells i 43) hZ hE
        refine bodyPost_ret (v := .tuple #[.agg (rTok), .int .i64 i, .agg (eCells i 43)]) ?_ rfl ?_
        · exact results_row_tmp_row rfl _ _ (w.heap.size) (w.heap.size + 1) 32 86 (rTok) (eCells i 43) (0, 0) (0, 0) _ _ _ rfl rfl rfl f1 f2 Tryz.underlying32 rfl (info_rt _ rfl) Tryz.underlying86 rfl (info_e _ rfl)
        exact ⟨by rw [HD.out]; rfl, rows_below HB.out (by omega) (by omega) _ _⟩
      · have HD : Hid (R = .ok 2 T fin) := Lib.hid (by rw [HR2.out, if_neg hln])
        rw [decide_eq_true hln] at hIW
        clear hln HR2
        go_wp2_with (first | (go_at_call 38; refine (hIW _).mono ?_; rintro e w9 ⟨rfl, rfl⟩) | (refine wpList_store_row rfl 32 (.tmp 4) (.tmp 62) rfl (w.heap.size) (rtCells 2 T i) rfl rfl 32 rTok hZ (info_rt _ rfl) rfl (rt_cells _ _ _) ?_) | (refine wpList_store_row rfl 86 (.tmp 6) (.tmp 64) rfl (w.heap.size + 1) (eCells 0 0) rfl rfl 86 (eCells 0 0) (by exact (setRow_other _ _ _ _ (by omega)).trans hE) (info_e _ rfl) rfl (e_cells _ _) ?_))
        obtain ⟨f1, f2⟩ := rows_two (W := _) (p := w.heap.size) (q := w.heap.size + 1) (by omega) (c1 := rtCells 2 T i) (c2 := eCells 0 0) hZ hE
        refine bodyPost_ret (v := .tuple #[.agg (rtCells 2 T i), .int .i64 fin, .agg (eCells 0 0)]) ?_ rfl ?_
        · exact results_row_tmp_row rfl _ _ (w.heap.size) (w.heap.size + 1) 32 86 (rtCells 2 T i) (eCells 0 0) (0, 0) (0, 0) _ _ _ rfl rfl rfl f1 f2 Tryz.underlying32 rfl (info_rt _ rfl) Tryz.underlying86 rfl (info_e _ rfl)
        exact ⟨by rw [HD.out]; rfl, rows_below HB.out (by omega) (by omega) _ _⟩
set_option maxHeartbeats 4000000 in
set_option maxRecDepth 100000 in
theorem one_sign (s : ByteArray) (i : Nat) (w : World) (hs : s.size ≤ 1000000) (hi : i < s.size) (hq : ¬ (bt s i = 39 ∨ bt s i = 34)) (h4 : cls (bt s i).toNat = 4) (R : TokR) (hR : tokN s i = R) :
    Calls Tryz.prog 52 #[.string s, .int .i64 i] w fun e w' => e = .returned (oneV i R) ∧ Below w.heap.size w w' := by
  have HR := Lib.hid hR
  clear hR
  have hb0 := bt_lo s i
  have hb1 := bt_hi s i
  have l2 : decide (i < s.size) = true := decide_eq_true hi
  have wi : IntKind.i64.wrap ((i : Int) + 1) = i + 1 := IntWalk.i64_in _ (by omega)
  have wi2 : IntKind.i64.wrap ((i : Int) + 2) = i + 2 := IntWalk.i64_in _ (by omega)
  have HX : Hid (((s[i]'hi).toNat : Int) = bt s i) := bt_in hi
  have b39 : (((s[i]'hi).toNat : Int) == 39) = false := by rw [HX.out]; exact beq_eq_false_iff_ne.2 (by omega)
  have b34 : (((s[i]'hi).toNat : Int) == 34) = false := by rw [HX.out]; exact beq_eq_false_iff_ne.2 (by omega)
  have HD : Hid (R = .ok 6 (s.extract i (i + 1)) (i + 1)) := Lib.hid (tok_sign HR.out hq h4)
  have hsg : ∀ w, Calls Tryz.prog 41 #[.int .u8 ((s[i]'hi).toNat : Int)] w fun e w' => e = .returned (.bool true) ∧ w' = w := fun w => by
    have := rIsSign_any _ (bt_lo s i) w
    rw [h4] at this
    rw [HX.out]; exact this
  have c1 : (0 : Int) ≤ i := by omega
  have c2 : (i : Int) ≤ i + 1 := by omega
  have c3 : (i : Int) + 1 ≤ s.size := by omega
  clear hq h4 hb0 hb1
  by_cases hi1 : i + 1 < s.size
  · have l3 : decide ((i : Int) + 1 < (s.size : Int)) = true := decide_eq_true (by omega)
    have l4 : decide (i + 1 < s.size) = true := decide_eq_true hi1
    go_enter Tryz.func52, Tryz.ntmps52
    go_wp2_with fail
    generalize hW : World.alloc (World.alloc w _) _ = W
    have hZ : W.heap[w.heap.size]? = some (.cells rTok 32 (0, 0)) := by rw [← hW]; exact (two_alloc w _ _).1
    have hE : W.heap[w.heap.size + 1]? = some (.cells (eCells 0 0) 86 (0, 0)) := by rw [← hW]; exact (two_alloc w _ _).2.1
    have HB : Hid (Below w.heap.size w W) := Lib.hid (by rw [← hW]; exact (two_alloc w _ _).2.2.1)
    have hwz : w.heap.size + 2 ≤ W.heap.size := by rw [← hW, (two_alloc w _ _).2.2.2]; omega
    clear hW
    refine (hsg _).mono ?_
    rintro e w8 ⟨rfl, rfl⟩
    go_wp2_with (first | (refine wpList_store_row rfl 32 (.tmp 4) (.tmp 74) rfl (w.heap.size) (rtCells 6 (s.extract i (i + 1)) i) rfl rfl 32 rTok hZ (info_rt _ rfl) rfl (rt_cells _ _ _) ?_) | (refine wpList_store_row rfl 86 (.tmp 6) (.tmp 77) rfl (w.heap.size + 1) (eCells 0 0) rfl rfl 86 (eCells 0 0) (by exact (setRow_other _ _ _ _ (by omega)).trans hE) (info_e _ rfl) rfl (e_cells _ _) ?_))
    obtain ⟨f1, f2⟩ := rows_two (W := _) (p := w.heap.size) (q := w.heap.size + 1) (by omega) (c1 := rtCells 6 (s.extract i (i + 1)) i) (c2 := eCells 0 0) hZ hE
    refine bodyPost_ret (v := .tuple #[.agg (rtCells 6 (s.extract i (i + 1)) i), .int .i64 (i + 1), .agg (eCells 0 0)]) ?_ rfl ?_
    · exact results_row_tmp_row rfl _ _ (w.heap.size) (w.heap.size + 1) 32 86 (rtCells 6 (s.extract i (i + 1)) i) (eCells 0 0) (0, 0) (0, 0) _ _ _ rfl rfl rfl f1 f2 Tryz.underlying32 rfl (info_rt _ rfl) Tryz.underlying86 rfl (info_e _ rfl)
    exact ⟨by rw [HD.out]; rfl, rows_below HB.out (by omega) (by omega) _ _⟩
  · have l3 : decide ((i : Int) + 1 < (s.size : Int)) = false := decide_eq_false (by omega)
    go_enter Tryz.func52, Tryz.ntmps52
    go_wp2_with fail
    generalize hW : World.alloc (World.alloc w _) _ = W
    have hZ : W.heap[w.heap.size]? = some (.cells rTok 32 (0, 0)) := by rw [← hW]; exact (two_alloc w _ _).1
    have hE : W.heap[w.heap.size + 1]? = some (.cells (eCells 0 0) 86 (0, 0)) := by rw [← hW]; exact (two_alloc w _ _).2.1
    have HB : Hid (Below w.heap.size w W) := Lib.hid (by rw [← hW]; exact (two_alloc w _ _).2.2.1)
    have hwz : w.heap.size + 2 ≤ W.heap.size := by rw [← hW, (two_alloc w _ _).2.2.2]; omega
    clear hW
    refine (hsg _).mono ?_
    rintro e w8 ⟨rfl, rfl⟩
    go_wp2_with (first | (refine wpList_store_row rfl 32 (.tmp 4) (.tmp 74) rfl (w.heap.size) (rtCells 6 (s.extract i (i + 1)) i) rfl rfl 32 rTok hZ (info_rt _ rfl) rfl (rt_cells _ _ _) ?_) | (refine wpList_store_row rfl 86 (.tmp 6) (.tmp 77) rfl (w.heap.size + 1) (eCells 0 0) rfl rfl 86 (eCells 0 0) (by exact (setRow_other _ _ _ _ (by omega)).trans hE) (info_e _ rfl) rfl (e_cells _ _) ?_))
    obtain ⟨f1, f2⟩ := rows_two (W := _) (p := w.heap.size) (q := w.heap.size + 1) (by omega) (c1 := rtCells 6 (s.extract i (i + 1)) i) (c2 := eCells 0 0) hZ hE
    refine bodyPost_ret (v := .tuple #[.agg (rtCells 6 (s.extract i (i + 1)) i), .int .i64 (i + 1), .agg (eCells 0 0)]) ?_ rfl ?_
    · exact results_row_tmp_row rfl _ _ (w.heap.size) (w.heap.size + 1) 32 86 (rtCells 6 (s.extract i (i + 1)) i) (eCells 0 0) (0, 0) (0, 0) _ _ _ rfl rfl rfl f1 f2 Tryz.underlying32 rfl (info_rt _ rfl) Tryz.underlying86 rfl (info_e _ rfl)
    exact ⟨by rw [HD.out]; rfl, rows_below HB.out (by omega) (by omega) _ _⟩
end Go.Proofs.YtmapaagdaojpaaaGreatDoor
namespace Go.Proofs.YtmapaagdaojpaaaGreatDoor
open Go.RowKit

set_option maxHeartbeats 4000000 in
set_option maxRecDepth 100000 in
theorem one_word (s : ByteArray) (i : Nat) (w : World) (hs : s.size ≤ 1000000) (hi : i < s.size) (h36 : bt s i = 36) (R : TokR) (hR : tokN s i = R) :
    Calls Tryz.prog 52 #[.string s, .int .i64 i] w fun e w' => e = .returned (oneV i R) ∧ Below w.heap.size w w' := by
  have HR := Lib.hid hR
  clear hR
  have hb0 := bt_lo s i
  have hb1 := bt_hi s i
  have l2 : decide (i < s.size) = true := decide_eq_true hi
  have wi : IntKind.i64.wrap ((i : Int) + 1) = i + 1 := IntWalk.i64_in _ (by omega)
  have wi2 : IntKind.i64.wrap ((i : Int) + 2) = i + 2 := IntWalk.i64_in _ (by omega)
  have HX : Hid (((s[i]'hi).toNat : Int) = bt s i) := bt_in hi
  have b39 : (((s[i]'hi).toNat : Int) == 39) = false := by rw [HX.out]; exact beq_eq_false_iff_ne.2 (by omega)
  have b34 : (((s[i]'hi).toNat : Int) == 34) = false := by rw [HX.out]; exact beq_eq_false_iff_ne.2 (by omega)
  have b36 : (((s[i]'hi).toNat : Int) == 36) = true := by rw [HX.out]; exact beq_iff_eq.2 (by omega)
  have hsg : ∀ w, Calls Tryz.prog 41 #[.int .u8 ((s[i]'hi).toNat : Int)] w fun e w' => e = .returned (.bool false) ∧ w' = w := fun w => by
    have := rIsSign_any _ (bt_lo s i) w
    rw [h36] at this
    rw [HX.out, h36]; exact this
  have HC := Lib.hid (tok_clear7 HR.out h36)
  clear h36 hb0 hb1
  by_cases hi1 : i + 1 < s.size
  · have l3 : decide ((i : Int) + 1 < (s.size : Int)) = true := decide_eq_true (by omega)
    have l4 : decide (i + 1 < s.size) = true := decide_eq_true hi1
    have HX1 : Hid (((s[i + 1]'hi1).toNat : Int) = bt s (i + 1)) := bt_in hi1
    have hL : ∀ w, Calls Tryz.prog 76 #[.int .u8 ((s[i + 1]'hi1).toNat : Int)] w fun e w' => e = .returned (.bool (cls (bt s (i + 1)).toNat == 2)) ∧ w' = w := fun w => by
      rw [HX1.out]; exact rLetter_any _ (bt_lo s (i + 1)) w
    by_cases hlt : cls (bt s (i + 1)).toNat = 2
    · rw [show (cls (bt s (i + 1)).toNat == 2) = true by simpa using hlt] at hL
      have hC := HC.out
      rw [if_pos hlt] at hC
      have hRn := fun w => rrun_any s (i + 1) false w hs (by omega)
      have hle := runTo_le s (inner dashes) (i + 1) (by omega)
      rw [show runP false = inner dashes from rfl] at hRn
      generalize runTo s (inner dashes) (i + 1) = E at hRn hle hC
      have hCl := fun w => clear_any s 7 i E 45 w hs hle.2
      rw [hC] at hCl
      unfold rtCells oneV at hCl
      have c1 : (0 : Int) ≤ i := by omega
      have c2 : (i : Int) ≤ E := by omega
      have c3 : (E : Int) ≤ s.size := by omega
      clear hlt hC HC
      go_enter Tryz.func52, Tryz.ntmps52
      go_wp2_with fail
      generalize hW : World.alloc (World.alloc w _) _ = W
      have hZ : W.heap[w.heap.size]? = some (.cells rTok 32 (0, 0)) := by rw [← hW]; exact (two_alloc w _ _).1
      have hE : W.heap[w.heap.size + 1]? = some (.cells (eCells 0 0) 86 (0, 0)) := by rw [← hW]; exact (two_alloc w _ _).2.1
      have HB : Hid (Below w.heap.size w W) := Lib.hid (by rw [← hW]; exact (two_alloc w _ _).2.2.1)
      have hwz : w.heap.size + 2 ≤ W.heap.size := by rw [← hW, (two_alloc w _ _).2.2.2]; omega
      clear hW
      refine (hsg _).mono ?_
      rintro e w7 ⟨rfl, rfl⟩
      go_wp2_with (first | (go_at_call 76; refine (hL _).mono ?_; rintro e w9 ⟨rfl, rfl⟩) | (go_at_call 77; refine (hRn _).mono ?_; rintro e w9 ⟨rfl, rfl⟩))
      refine (hCl _).mono ?_
      rintro e w8 ⟨rfl, hb⟩
      have hZ := (hb.block _ (by omega)).trans hZ
      have hE := (hb.block _ (by omega)).trans hE
      have HB : Hid (Below w.heap.size w w8) := Lib.hid (HB.out.trans (hb.mono (by omega)))
      have hwz : w.heap.size + 2 ≤ w8.heap.size := by have := hb.size; omega
      clear hb
      clear hCl
      go_wp2_with (first | (refine wpList_store_row rfl 32 (.tmp 4) (.tmp 105) rfl (w.heap.size) (tokOf i R) rfl rfl 32 rTok hZ (info_rt _ (tokOf_size _ _)) (by rw [tokOf_size]; rfl) (tokOf_cells _ _) ?_) | (refine wpList_store_row rfl 86 (.tmp 6) (.tmp 107) rfl (w.heap.size + 1) (errOf R) rfl rfl 86 (eCells 0 0) (by exact (setRow_other _ _ _ _ (by omega)).trans hE) (info_e _ (errOf_size _)) (by rw [errOf_size]; rfl) (errOf_cells _) ?_))
      obtain ⟨f1, f2⟩ := rows_two (W := _) (p := w.heap.size) (q := w.heap.size + 1) (by omega) (c1 := tokOf i R) (c2 := errOf R) hZ hE
      refine bodyPost_ret (v := .tuple #[.agg (tokOf i R), .int .i64 (finOf R), .agg (errOf R)]) ?_ rfl ?_
      · exact results_row_tmp_row rfl _ _ (w.heap.size) (w.heap.size + 1) 32 86 (tokOf i R) (errOf R) (0, 0) (0, 0) _ _ _ rfl rfl rfl f1 f2 Tryz.underlying32 rfl (info_rt _ (tokOf_size _ _)) Tryz.underlying86 rfl (info_e _ (errOf_size _))
      exact ⟨rfl, rows_below HB.out (by omega) (by omega) _ _⟩
    · rw [show (cls (bt s (i + 1)).toNat == 2) = false by simpa using hlt] at hL
      have hC := HC.out
      rw [if_neg hlt] at hC
      have hCl := fun w => clear_any s 7 i (i + 1) 45 w hs (by omega)
      rw [hC] at hCl
      unfold rtCells oneV at hCl
      have c1 : (0 : Int) ≤ i := by omega
      have c2 : (i : Int) ≤ i + 1 := by omega
      have c3 : (i : Int) + 1 ≤ s.size := by omega
      clear hlt hC HC
      go_enter Tryz.func52, Tryz.ntmps52
      go_wp2_with fail
      generalize hW : World.alloc (World.alloc w _) _ = W
      have hZ : W.heap[w.heap.size]? = some (.cells rTok 32 (0, 0)) := by rw [← hW]; exact (two_alloc w _ _).1
      have hE : W.heap[w.heap.size + 1]? = some (.cells (eCells 0 0) 86 (0, 0)) := by rw [← hW]; exact (two_alloc w _ _).2.1
      have HB : Hid (Below w.heap.size w W) := Lib.hid (by rw [← hW]; exact (two_alloc w _ _).2.2.1)
      have hwz : w.heap.size + 2 ≤ W.heap.size := by rw [← hW, (two_alloc w _ _).2.2.2]; omega
      clear hW
      refine (hsg _).mono ?_
      rintro e w7 ⟨rfl, rfl⟩
      go_wp2_with (first | (go_at_call 76; refine (hL _).mono ?_; rintro e w9 ⟨rfl, rfl⟩))
      refine (hCl _).mono ?_
      rintro e w8 ⟨rfl, hb⟩
      have hZ := (hb.block _ (by omega)).trans hZ
      have hE := (hb.block _ (by omega)).trans hE
      have HB : Hid (Below w.heap.size w w8) := Lib.hid (HB.out.trans (hb.mono (by omega)))
      have hwz : w.heap.size + 2 ≤ w8.heap.size := by have := hb.size; omega
      clear hb
      clear hCl
      go_wp2_with (first | (refine wpList_store_row rfl 32 (.tmp 4) (.tmp 105) rfl (w.heap.size) (tokOf i R) rfl rfl 32 rTok hZ (info_rt _ (tokOf_size _ _)) (by rw [tokOf_size]; rfl) (tokOf_cells _ _) ?_) | (refine wpList_store_row rfl 86 (.tmp 6) (.tmp 107) rfl (w.heap.size + 1) (errOf R) rfl rfl 86 (eCells 0 0) (by exact (setRow_other _ _ _ _ (by omega)).trans hE) (info_e _ (errOf_size _)) (by rw [errOf_size]; rfl) (errOf_cells _) ?_))
      obtain ⟨f1, f2⟩ := rows_two (W := _) (p := w.heap.size) (q := w.heap.size + 1) (by omega) (c1 := tokOf i R) (c2 := errOf R) hZ hE
      refine bodyPost_ret (v := .tuple #[.agg (tokOf i R), .int .i64 (finOf R), .agg (errOf R)]) ?_ rfl ?_
      · exact results_row_tmp_row rfl _ _ (w.heap.size) (w.heap.size + 1) 32 86 (tokOf i R) (errOf R) (0, 0) (0, 0) _ _ _ rfl rfl rfl f1 f2 Tryz.underlying32 rfl (info_rt _ (tokOf_size _ _)) Tryz.underlying86 rfl (info_e _ (errOf_size _))
      exact ⟨rfl, rows_below HB.out (by omega) (by omega) _ _⟩
  · have l3 : decide ((i : Int) + 1 < (s.size : Int)) = false := decide_eq_false (by omega)
    have hC := HC.out
    rw [if_neg (by rw [bt_out (by omega)]; decide)] at hC
    have hCl := fun w => clear_any s 7 i (i + 1) 45 w hs (by omega)
    rw [hC] at hCl
    unfold rtCells oneV at hCl
    have c1 : (0 : Int) ≤ i := by omega
    have c2 : (i : Int) ≤ i + 1 := by omega
    have c3 : (i : Int) + 1 ≤ s.size := by omega
    clear hC HC
    go_enter Tryz.func52, Tryz.ntmps52
    go_wp2_with fail
    generalize hW : World.alloc (World.alloc w _) _ = W
    have hZ : W.heap[w.heap.size]? = some (.cells rTok 32 (0, 0)) := by rw [← hW]; exact (two_alloc w _ _).1
    have hE : W.heap[w.heap.size + 1]? = some (.cells (eCells 0 0) 86 (0, 0)) := by rw [← hW]; exact (two_alloc w _ _).2.1
    have HB : Hid (Below w.heap.size w W) := Lib.hid (by rw [← hW]; exact (two_alloc w _ _).2.2.1)
    have hwz : w.heap.size + 2 ≤ W.heap.size := by rw [← hW, (two_alloc w _ _).2.2.2]; omega
    clear hW
    refine (hsg _).mono ?_
    rintro e w7 ⟨rfl, rfl⟩
    go_wp2_with fail
    refine (hCl _).mono ?_
    rintro e w8 ⟨rfl, hb⟩
    have hZ := (hb.block _ (by omega)).trans hZ
    have hE := (hb.block _ (by omega)).trans hE
    have HB : Hid (Below w.heap.size w w8) := Lib.hid (HB.out.trans (hb.mono (by omega)))
    have hwz : w.heap.size + 2 ≤ w8.heap.size := by have := hb.size; omega
    clear hb
    clear hCl
    go_wp2_with (first | (refine wpList_store_row rfl 32 (.tmp 4) (.tmp 105) rfl (w.heap.size) (tokOf i R) rfl rfl 32 rTok hZ (info_rt _ (tokOf_size _ _)) (by rw [tokOf_size]; rfl) (tokOf_cells _ _) ?_) | (refine wpList_store_row rfl 86 (.tmp 6) (.tmp 107) rfl (w.heap.size + 1) (errOf R) rfl rfl 86 (eCells 0 0) (by exact (setRow_other _ _ _ _ (by omega)).trans hE) (info_e _ (errOf_size _)) (by rw [errOf_size]; rfl) (errOf_cells _) ?_))
    obtain ⟨f1, f2⟩ := rows_two (W := _) (p := w.heap.size) (q := w.heap.size + 1) (by omega) (c1 := tokOf i R) (c2 := errOf R) hZ hE
    refine bodyPost_ret (v := .tuple #[.agg (tokOf i R), .int .i64 (finOf R), .agg (errOf R)]) ?_ rfl ?_
    · exact results_row_tmp_row rfl _ _ (w.heap.size) (w.heap.size + 1) 32 86 (tokOf i R) (errOf R) (0, 0) (0, 0) _ _ _ rfl rfl rfl f1 f2 Tryz.underlying32 rfl (info_rt _ (tokOf_size _ _)) Tryz.underlying86 rfl (info_e _ (errOf_size _))
    exact ⟨rfl, rows_below HB.out (by omega) (by omega) _ _⟩
set_option maxHeartbeats 4000000 in
set_option maxRecDepth 100000 in
theorem one_var (s : ByteArray) (i : Nat) (w : World) (hs : s.size ≤ 1000000) (hi : i < s.size) (hq : ¬ (bt s i = 39 ∨ bt s i = 34)) (h4 : ¬ cls (bt s i).toNat = 4) (hste : steB (bt s i) = true) (h46 : bt s (i + 1) = 46) (R : TokR) (hR : tokN s i = R) :
    Calls Tryz.prog 52 #[.string s, .int .i64 i] w fun e w' => e = .returned (oneV i R) ∧ Below w.heap.size w w' := by
  have HR := Lib.hid hR
  clear hR
  have hb0 := bt_lo s i
  have hb1 := bt_hi s i
  have l2 : decide (i < s.size) = true := decide_eq_true hi
  have wi : IntKind.i64.wrap ((i : Int) + 1) = i + 1 := IntWalk.i64_in _ (by omega)
  have wi2 : IntKind.i64.wrap ((i : Int) + 2) = i + 2 := IntWalk.i64_in _ (by omega)
  have HX : Hid (((s[i]'hi).toNat : Int) = bt s i) := bt_in hi
  have h36 : ¬ bt s i = 36 := fun q => by rw [q] at hste; exact absurd hste (by decide)
  have b39 : (((s[i]'hi).toNat : Int) == 39) = false := by rw [HX.out]; exact beq_eq_false_iff_ne.2 (by omega)
  have b34 : (((s[i]'hi).toNat : Int) == 34) = false := by rw [HX.out]; exact beq_eq_false_iff_ne.2 (by omega)
  have b36 : (((s[i]'hi).toNat : Int) == 36) = false := by rw [HX.out]; exact beq_eq_false_iff_ne.2 h36
  have hsg : ∀ w, Calls Tryz.prog 41 #[.int .u8 ((s[i]'hi).toNat : Int)] w fun e w' => e = .returned (.bool false) ∧ w' = w := fun w => by
    have := rIsSign_any _ (bt_lo s i) w
    rw [show (cls (bt s i).toNat == 4) = false by simpa using h4] at this
    rw [HX.out]; exact this
  have hi1 : i + 1 < s.size := Nat.lt_of_not_le fun r => by rw [bt_out r] at h46; cases h46
  have l3 : decide ((i : Int) + 1 < (s.size : Int)) = true := decide_eq_true (by omega)
  have l4 : decide (i + 1 < s.size) = true := decide_eq_true hi1
  have n46 : (((s[i + 1]'hi1).toNat : Int) == 46) = true := by rw [bt_in hi1, h46]; rfl
  have hC := tok_clear5 hi1 HR.out hq h4 ⟨hste, h46⟩
  have hRn := fun w => rrun_any s (i + 2) true w hs (by omega)
  have hle := runTo_le s (inner none8) (i + 2) (by omega)
  rw [show runP true = inner none8 from rfl] at hRn
  generalize runTo s (inner none8) (i + 2) = E at hRn hle hC
  have hCl := fun w => clear_any s 5 i E 43 w hs hle.2
  rw [hC] at hCl
  unfold rtCells oneV at hCl
  have c1 : (0 : Int) ≤ i := by omega
  have c2 : (i : Int) ≤ E := by omega
  have c3 : (E : Int) ≤ s.size := by omega
  clear hq h4 h36 h46 hC hb0 hb1
  have hst : bt s i = 115 ∨ (¬ bt s i = 115 ∧ bt s i = 116) ∨ (¬ bt s i = 115 ∧ ¬ bt s i = 116 ∧ bt s i = 101) := by
    unfold steB at hste
    simp only [Bool.or_eq_true, beq_iff_eq] at hste
    omega
  clear hste
  rcases hst with h1 | ⟨h1, h2⟩ | ⟨h1, h2, h3⟩
  · have b115 : (((s[i]'hi).toNat : Int) == 115) = true := by rw [HX.out]; exact beq_iff_eq.2 h1
    clear h1
    go_enter Tryz.func52, Tryz.ntmps52
    go_wp2_with fail
    generalize hW : World.alloc (World.alloc w _) _ = W
    have hZ : W.heap[w.heap.size]? = some (.cells rTok 32 (0, 0)) := by rw [← hW]; exact (two_alloc w _ _).1
    have hE : W.heap[w.heap.size + 1]? = some (.cells (eCells 0 0) 86 (0, 0)) := by rw [← hW]; exact (two_alloc w _ _).2.1
    have HB : Hid (Below w.heap.size w W) := Lib.hid (by rw [← hW]; exact (two_alloc w _ _).2.2.1)
    have hwz : w.heap.size + 2 ≤ W.heap.size := by rw [← hW, (two_alloc w _ _).2.2.2]; omega
    clear hW
    refine (hsg _).mono ?_
    rintro e w7 ⟨rfl, rfl⟩
    go_wp2_with (first | (go_at_call 77; refine (hRn _).mono ?_; rintro e w9 ⟨rfl, rfl⟩))
    refine (hCl _).mono ?_
    rintro e w8 ⟨rfl, hb⟩
    have hZ := (hb.block _ (by omega)).trans hZ
    have hE := (hb.block _ (by omega)).trans hE
    have HB : Hid (Below w.heap.size w w8) := Lib.hid (HB.out.trans (hb.mono (by omega)))
    have hwz : w.heap.size + 2 ≤ w8.heap.size := by have := hb.size; omega
    clear hb
    clear hCl
    go_wp2_with (first | (refine wpList_store_row rfl 32 (.tmp 4) (.tmp 136) rfl (w.heap.size) (tokOf i R) rfl rfl 32 rTok hZ (info_rt _ (tokOf_size _ _)) (by rw [tokOf_size]; rfl) (tokOf_cells _ _) ?_) | (refine wpList_store_row rfl 86 (.tmp 6) (.tmp 138) rfl (w.heap.size + 1) (errOf R) rfl rfl 86 (eCells 0 0) (by exact (setRow_other _ _ _ _ (by omega)).trans hE) (info_e _ (errOf_size _)) (by rw [errOf_size]; rfl) (errOf_cells _) ?_))
    obtain ⟨f1, f2⟩ := rows_two (W := _) (p := w.heap.size) (q := w.heap.size + 1) (by omega) (c1 := tokOf i R) (c2 := errOf R) hZ hE
    refine bodyPost_ret (v := .tuple #[.agg (tokOf i R), .int .i64 (finOf R), .agg (errOf R)]) ?_ rfl ?_
    · exact results_row_tmp_row rfl _ _ (w.heap.size) (w.heap.size + 1) 32 86 (tokOf i R) (errOf R) (0, 0) (0, 0) _ _ _ rfl rfl rfl f1 f2 Tryz.underlying32 rfl (info_rt _ (tokOf_size _ _)) Tryz.underlying86 rfl (info_e _ (errOf_size _))
    exact ⟨rfl, rows_below HB.out (by omega) (by omega) _ _⟩
  · have b115 : (((s[i]'hi).toNat : Int) == 115) = false := by rw [HX.out]; exact beq_eq_false_iff_ne.2 h1
    have b116 : (((s[i]'hi).toNat : Int) == 116) = true := by rw [HX.out]; exact beq_iff_eq.2 h2
    clear h1 h2
    go_enter Tryz.func52, Tryz.ntmps52
    go_wp2_with fail
    generalize hW : World.alloc (World.alloc w _) _ = W
    have hZ : W.heap[w.heap.size]? = some (.cells rTok 32 (0, 0)) := by rw [← hW]; exact (two_alloc w _ _).1
    have hE : W.heap[w.heap.size + 1]? = some (.cells (eCells 0 0) 86 (0, 0)) := by rw [← hW]; exact (two_alloc w _ _).2.1
    have HB : Hid (Below w.heap.size w W) := Lib.hid (by rw [← hW]; exact (two_alloc w _ _).2.2.1)
    have hwz : w.heap.size + 2 ≤ W.heap.size := by rw [← hW, (two_alloc w _ _).2.2.2]; omega
    clear hW
    refine (hsg _).mono ?_
    rintro e w7 ⟨rfl, rfl⟩
    go_wp2_with (first | (go_at_call 77; refine (hRn _).mono ?_; rintro e w9 ⟨rfl, rfl⟩))
    refine (hCl _).mono ?_
    rintro e w8 ⟨rfl, hb⟩
    have hZ := (hb.block _ (by omega)).trans hZ
    have hE := (hb.block _ (by omega)).trans hE
    have HB : Hid (Below w.heap.size w w8) := Lib.hid (HB.out.trans (hb.mono (by omega)))
    have hwz : w.heap.size + 2 ≤ w8.heap.size := by have := hb.size; omega
    clear hb
    clear hCl
    go_wp2_with (first | (refine wpList_store_row rfl 32 (.tmp 4) (.tmp 136) rfl (w.heap.size) (tokOf i R) rfl rfl 32 rTok hZ (info_rt _ (tokOf_size _ _)) (by rw [tokOf_size]; rfl) (tokOf_cells _ _) ?_) | (refine wpList_store_row rfl 86 (.tmp 6) (.tmp 138) rfl (w.heap.size + 1) (errOf R) rfl rfl 86 (eCells 0 0) (by exact (setRow_other _ _ _ _ (by omega)).trans hE) (info_e _ (errOf_size _)) (by rw [errOf_size]; rfl) (errOf_cells _) ?_))
    obtain ⟨f1, f2⟩ := rows_two (W := _) (p := w.heap.size) (q := w.heap.size + 1) (by omega) (c1 := tokOf i R) (c2 := errOf R) hZ hE
    refine bodyPost_ret (v := .tuple #[.agg (tokOf i R), .int .i64 (finOf R), .agg (errOf R)]) ?_ rfl ?_
    · exact results_row_tmp_row rfl _ _ (w.heap.size) (w.heap.size + 1) 32 86 (tokOf i R) (errOf R) (0, 0) (0, 0) _ _ _ rfl rfl rfl f1 f2 Tryz.underlying32 rfl (info_rt _ (tokOf_size _ _)) Tryz.underlying86 rfl (info_e _ (errOf_size _))
    exact ⟨rfl, rows_below HB.out (by omega) (by omega) _ _⟩
  · have b115 : (((s[i]'hi).toNat : Int) == 115) = false := by rw [HX.out]; exact beq_eq_false_iff_ne.2 h1
    have b116 : (((s[i]'hi).toNat : Int) == 116) = false := by rw [HX.out]; exact beq_eq_false_iff_ne.2 h2
    have b101 : (((s[i]'hi).toNat : Int) == 101) = true := by rw [HX.out]; exact beq_iff_eq.2 h3
    clear h1 h2 h3
    go_enter Tryz.func52, Tryz.ntmps52
    go_wp2_with fail
    generalize hW : World.alloc (World.alloc w _) _ = W
    have hZ : W.heap[w.heap.size]? = some (.cells rTok 32 (0, 0)) := by rw [← hW]; exact (two_alloc w _ _).1
    have hE : W.heap[w.heap.size + 1]? = some (.cells (eCells 0 0) 86 (0, 0)) := by rw [← hW]; exact (two_alloc w _ _).2.1
    have HB : Hid (Below w.heap.size w W) := Lib.hid (by rw [← hW]; exact (two_alloc w _ _).2.2.1)
    have hwz : w.heap.size + 2 ≤ W.heap.size := by rw [← hW, (two_alloc w _ _).2.2.2]; omega
    clear hW
    refine (hsg _).mono ?_
    rintro e w7 ⟨rfl, rfl⟩
    go_wp2_with (first | (go_at_call 77; refine (hRn _).mono ?_; rintro e w9 ⟨rfl, rfl⟩))
    refine (hCl _).mono ?_
    rintro e w8 ⟨rfl, hb⟩
    have hZ := (hb.block _ (by omega)).trans hZ
    have hE := (hb.block _ (by omega)).trans hE
    have HB : Hid (Below w.heap.size w w8) := Lib.hid (HB.out.trans (hb.mono (by omega)))
    have hwz : w.heap.size + 2 ≤ w8.heap.size := by have := hb.size; omega
    clear hb
    clear hCl
    go_wp2_with (first | (refine wpList_store_row rfl 32 (.tmp 4) (.tmp 136) rfl (w.heap.size) (tokOf i R) rfl rfl 32 rTok hZ (info_rt _ (tokOf_size _ _)) (by rw [tokOf_size]; rfl) (tokOf_cells _ _) ?_) | (refine wpList_store_row rfl 86 (.tmp 6) (.tmp 138) rfl (w.heap.size + 1) (errOf R) rfl rfl 86 (eCells 0 0) (by exact (setRow_other _ _ _ _ (by omega)).trans hE) (info_e _ (errOf_size _)) (by rw [errOf_size]; rfl) (errOf_cells _) ?_))
    obtain ⟨f1, f2⟩ := rows_two (W := _) (p := w.heap.size) (q := w.heap.size + 1) (by omega) (c1 := tokOf i R) (c2 := errOf R) hZ hE
    refine bodyPost_ret (v := .tuple #[.agg (tokOf i R), .int .i64 (finOf R), .agg (errOf R)]) ?_ rfl ?_
    · exact results_row_tmp_row rfl _ _ (w.heap.size) (w.heap.size + 1) 32 86 (tokOf i R) (errOf R) (0, 0) (0, 0) _ _ _ rfl rfl rfl f1 f2 Tryz.underlying32 rfl (info_rt _ (tokOf_size _ _)) Tryz.underlying86 rfl (info_e _ (errOf_size _))
    exact ⟨rfl, rows_below HB.out (by omega) (by omega) _ _⟩
end Go.Proofs.YtmapaagdaojpaaaGreatDoor
namespace Go.Proofs.YtmapaagdaojpaaaGreatDoor
open Go.RowKit

set_option maxHeartbeats 4000000 in
set_option maxRecDepth 100000 in
theorem one_name (s : ByteArray) (i : Nat) (w : World) (hs : s.size ≤ 1000000) (hi : i < s.size) (hq : ¬ (bt s i = 39 ∨ bt s i = 34)) (h2 : cls (bt s i).toNat = 2) (hv : ¬ (steB (bt s i) = true ∧ bt s (i + 1) = 46)) (R : TokR) (hR : tokN s i = R) :
    Calls Tryz.prog 52 #[.string s, .int .i64 i] w fun e w' => e = .returned (oneV i R) ∧ Below w.heap.size w w' := by
  have HR := Lib.hid hR
  clear hR
  have hb0 := bt_lo s i
  have hb1 := bt_hi s i
  have l2 : decide (i < s.size) = true := decide_eq_true hi
  have wi : IntKind.i64.wrap ((i : Int) + 1) = i + 1 := IntWalk.i64_in _ (by omega)
  have wi2 : IntKind.i64.wrap ((i : Int) + 2) = i + 2 := IntWalk.i64_in _ (by omega)
  have HX : Hid (((s[i]'hi).toNat : Int) = bt s i) := bt_in hi
  have h36 : ¬ bt s i = 36 := fun q => by rw [q] at h2; exact absurd h2 (by decide)
  have h4 : ¬ cls (bt s i).toNat = 4 := by rw [h2]; decide
  have b39 : (((s[i]'hi).toNat : Int) == 39) = false := by rw [HX.out]; exact beq_eq_false_iff_ne.2 (by omega)
  have b34 : (((s[i]'hi).toNat : Int) == 34) = false := by rw [HX.out]; exact beq_eq_false_iff_ne.2 (by omega)
  have b36 : (((s[i]'hi).toNat : Int) == 36) = false := by rw [HX.out]; exact beq_eq_false_iff_ne.2 h36
  have hsg : ∀ w, Calls Tryz.prog 41 #[.int .u8 ((s[i]'hi).toNat : Int)] w fun e w' => e = .returned (.bool false) ∧ w' = w := fun w => by
    have := rIsSign_any _ (bt_lo s i) w
    rw [show (cls (bt s i).toNat == 4) = false by simpa using h4] at this
    rw [HX.out]; exact this
  have hLt : ∀ w, Calls Tryz.prog 76 #[.int .u8 ((s[i]'hi).toNat : Int)] w fun e w' => e = .returned (.bool true) ∧ w' = w := fun w => by
    have := rLetter_any _ (bt_lo s i) w
    rw [h2] at this
    rw [HX.out]; exact this
  have hC := tok_clear3 hi HR.out hq hv h2
  have hRn := fun w => rrun_any s i false w hs (by omega)
  have hle := runTo_le s (inner dashes) i (by omega)
  rw [show runP false = inner dashes from rfl] at hRn
  generalize runTo s (inner dashes) i = E at hRn hle hC
  have hCl := fun w => clear_any s 3 i E 43 w hs hle.2
  rw [hC] at hCl
  unfold rtCells oneV at hCl
  have c1 : (0 : Int) ≤ i := by omega
  have c2 : (i : Int) ≤ E := by omega
  have c3 : (E : Int) ≤ s.size := by omega
  clear hq h4 h36 hC hb0 hb1 h2
  by_cases hste : steB (bt s i) = true
  · have h46 : ¬ bt s (i + 1) = 46 := fun q => hv ⟨hste, q⟩
    clear hv
    by_cases hi1 : i + 1 < s.size
    · have l3 : decide ((i : Int) + 1 < (s.size : Int)) = true := decide_eq_true (by omega)
      have l4 : decide (i + 1 < s.size) = true := decide_eq_true hi1
      have n46 : (((s[i + 1]'hi1).toNat : Int) == 46) = false := by rw [bt_in hi1]; exact beq_eq_false_iff_ne.2 h46
      clear h46
      have hst : bt s i = 115 ∨ (¬ bt s i = 115 ∧ bt s i = 116) ∨ (¬ bt s i = 115 ∧ ¬ bt s i = 116 ∧ bt s i = 101) := by
        unfold steB at hste
        simp only [Bool.or_eq_true, beq_iff_eq] at hste
        omega
      clear hste
      rcases hst with h1 | ⟨h1, h2⟩ | ⟨h1, h2, h3⟩
      · have b115 : (((s[i]'hi).toNat : Int) == 115) = true := by rw [HX.out]; exact beq_iff_eq.2 h1
        clear h1
        go_enter Tryz.func52, Tryz.ntmps52
        go_wp2_with fail
        generalize hW : World.alloc (World.alloc w _) _ = W
        have hZ : W.heap[w.heap.size]? = some (.cells rTok 32 (0, 0)) := by rw [← hW]; exact (two_alloc w _ _).1
        have hE : W.heap[w.heap.size + 1]? = some (.cells (eCells 0 0) 86 (0, 0)) := by rw [← hW]; exact (two_alloc w _ _).2.1
        have HB : Hid (Below w.heap.size w W) := Lib.hid (by rw [← hW]; exact (two_alloc w _ _).2.2.1)
        have hwz : w.heap.size + 2 ≤ W.heap.size := by rw [← hW, (two_alloc w _ _).2.2.2]; omega
        clear hW
        refine (hsg _).mono ?_
        rintro e w7 ⟨rfl, rfl⟩
        go_wp2_with (first | (go_at_call 76; refine (hLt _).mono ?_; rintro e w9 ⟨rfl, rfl⟩) | (go_at_call 77; refine (hRn _).mono ?_; rintro e w9 ⟨rfl, rfl⟩))
        refine (hCl _).mono ?_
        rintro e w8 ⟨rfl, hb⟩
        have hZ := (hb.block _ (by omega)).trans hZ
        have hE := (hb.block _ (by omega)).trans hE
        have HB : Hid (Below w.heap.size w w8) := Lib.hid (HB.out.trans (hb.mono (by omega)))
        have hwz : w.heap.size + 2 ≤ w8.heap.size := by have := hb.size; omega
        clear hb
        clear hCl
        go_wp2_with (first | (refine wpList_store_row rfl 32 (.tmp 4) (.tmp 154) rfl (w.heap.size) (tokOf i R) rfl rfl 32 rTok hZ (info_rt _ (tokOf_size _ _)) (by rw [tokOf_size]; rfl) (tokOf_cells _ _) ?_) | (refine wpList_store_row rfl 86 (.tmp 6) (.tmp 156) rfl (w.heap.size + 1) (errOf R) rfl rfl 86 (eCells 0 0) (by exact (setRow_other _ _ _ _ (by omega)).trans hE) (info_e _ (errOf_size _)) (by rw [errOf_size]; rfl) (errOf_cells _) ?_))
        obtain ⟨f1, f2⟩ := rows_two (W := _) (p := w.heap.size) (q := w.heap.size + 1) (by omega) (c1 := tokOf i R) (c2 := errOf R) hZ hE
        refine bodyPost_ret (v := .tuple #[.agg (tokOf i R), .int .i64 (finOf R), .agg (errOf R)]) ?_ rfl ?_
        · exact results_row_tmp_row rfl _ _ (w.heap.size) (w.heap.size + 1) 32 86 (tokOf i R) (errOf R) (0, 0) (0, 0) _ _ _ rfl rfl rfl f1 f2 Tryz.underlying32 rfl (info_rt _ (tokOf_size _ _)) Tryz.underlying86 rfl (info_e _ (errOf_size _))
        exact ⟨rfl, rows_below HB.out (by omega) (by omega) _ _⟩
      · have b115 : (((s[i]'hi).toNat : Int) == 115) = false := by rw [HX.out]; exact beq_eq_false_iff_ne.2 h1
        have b116 : (((s[i]'hi).toNat : Int) == 116) = true := by rw [HX.out]; exact beq_iff_eq.2 h2
        clear h1 h2
        go_enter Tryz.func52, Tryz.ntmps52
        go_wp2_with fail
        generalize hW : World.alloc (World.alloc w _) _ = W
        have hZ : W.heap[w.heap.size]? = some (.cells rTok 32 (0, 0)) := by rw [← hW]; exact (two_alloc w _ _).1
        have hE : W.heap[w.heap.size + 1]? = some (.cells (eCells 0 0) 86 (0, 0)) := by rw [← hW]; exact (two_alloc w _ _).2.1
        have HB : Hid (Below w.heap.size w W) := Lib.hid (by rw [← hW]; exact (two_alloc w _ _).2.2.1)
        have hwz : w.heap.size + 2 ≤ W.heap.size := by rw [← hW, (two_alloc w _ _).2.2.2]; omega
        clear hW
        refine (hsg _).mono ?_
        rintro e w7 ⟨rfl, rfl⟩
        go_wp2_with (first | (go_at_call 76; refine (hLt _).mono ?_; rintro e w9 ⟨rfl, rfl⟩) | (go_at_call 77; refine (hRn _).mono ?_; rintro e w9 ⟨rfl, rfl⟩))
        refine (hCl _).mono ?_
        rintro e w8 ⟨rfl, hb⟩
        have hZ := (hb.block _ (by omega)).trans hZ
        have hE := (hb.block _ (by omega)).trans hE
        have HB : Hid (Below w.heap.size w w8) := Lib.hid (HB.out.trans (hb.mono (by omega)))
        have hwz : w.heap.size + 2 ≤ w8.heap.size := by have := hb.size; omega
        clear hb
        clear hCl
        go_wp2_with (first | (refine wpList_store_row rfl 32 (.tmp 4) (.tmp 154) rfl (w.heap.size) (tokOf i R) rfl rfl 32 rTok hZ (info_rt _ (tokOf_size _ _)) (by rw [tokOf_size]; rfl) (tokOf_cells _ _) ?_) | (refine wpList_store_row rfl 86 (.tmp 6) (.tmp 156) rfl (w.heap.size + 1) (errOf R) rfl rfl 86 (eCells 0 0) (by exact (setRow_other _ _ _ _ (by omega)).trans hE) (info_e _ (errOf_size _)) (by rw [errOf_size]; rfl) (errOf_cells _) ?_))
        obtain ⟨f1, f2⟩ := rows_two (W := _) (p := w.heap.size) (q := w.heap.size + 1) (by omega) (c1 := tokOf i R) (c2 := errOf R) hZ hE
        refine bodyPost_ret (v := .tuple #[.agg (tokOf i R), .int .i64 (finOf R), .agg (errOf R)]) ?_ rfl ?_
        · exact results_row_tmp_row rfl _ _ (w.heap.size) (w.heap.size + 1) 32 86 (tokOf i R) (errOf R) (0, 0) (0, 0) _ _ _ rfl rfl rfl f1 f2 Tryz.underlying32 rfl (info_rt _ (tokOf_size _ _)) Tryz.underlying86 rfl (info_e _ (errOf_size _))
        exact ⟨rfl, rows_below HB.out (by omega) (by omega) _ _⟩
      · have b115 : (((s[i]'hi).toNat : Int) == 115) = false := by rw [HX.out]; exact beq_eq_false_iff_ne.2 h1
        have b116 : (((s[i]'hi).toNat : Int) == 116) = false := by rw [HX.out]; exact beq_eq_false_iff_ne.2 h2
        have b101 : (((s[i]'hi).toNat : Int) == 101) = true := by rw [HX.out]; exact beq_iff_eq.2 h3
        clear h1 h2 h3
        go_enter Tryz.func52, Tryz.ntmps52
        go_wp2_with fail
        generalize hW : World.alloc (World.alloc w _) _ = W
        have hZ : W.heap[w.heap.size]? = some (.cells rTok 32 (0, 0)) := by rw [← hW]; exact (two_alloc w _ _).1
        have hE : W.heap[w.heap.size + 1]? = some (.cells (eCells 0 0) 86 (0, 0)) := by rw [← hW]; exact (two_alloc w _ _).2.1
        have HB : Hid (Below w.heap.size w W) := Lib.hid (by rw [← hW]; exact (two_alloc w _ _).2.2.1)
        have hwz : w.heap.size + 2 ≤ W.heap.size := by rw [← hW, (two_alloc w _ _).2.2.2]; omega
        clear hW
        refine (hsg _).mono ?_
        rintro e w7 ⟨rfl, rfl⟩
        go_wp2_with (first | (go_at_call 76; refine (hLt _).mono ?_; rintro e w9 ⟨rfl, rfl⟩) | (go_at_call 77; refine (hRn _).mono ?_; rintro e w9 ⟨rfl, rfl⟩))
        refine (hCl _).mono ?_
        rintro e w8 ⟨rfl, hb⟩
        have hZ := (hb.block _ (by omega)).trans hZ
        have hE := (hb.block _ (by omega)).trans hE
        have HB : Hid (Below w.heap.size w w8) := Lib.hid (HB.out.trans (hb.mono (by omega)))
        have hwz : w.heap.size + 2 ≤ w8.heap.size := by have := hb.size; omega
        clear hb
        clear hCl
        go_wp2_with (first | (refine wpList_store_row rfl 32 (.tmp 4) (.tmp 154) rfl (w.heap.size) (tokOf i R) rfl rfl 32 rTok hZ (info_rt _ (tokOf_size _ _)) (by rw [tokOf_size]; rfl) (tokOf_cells _ _) ?_) | (refine wpList_store_row rfl 86 (.tmp 6) (.tmp 156) rfl (w.heap.size + 1) (errOf R) rfl rfl 86 (eCells 0 0) (by exact (setRow_other _ _ _ _ (by omega)).trans hE) (info_e _ (errOf_size _)) (by rw [errOf_size]; rfl) (errOf_cells _) ?_))
        obtain ⟨f1, f2⟩ := rows_two (W := _) (p := w.heap.size) (q := w.heap.size + 1) (by omega) (c1 := tokOf i R) (c2 := errOf R) hZ hE
        refine bodyPost_ret (v := .tuple #[.agg (tokOf i R), .int .i64 (finOf R), .agg (errOf R)]) ?_ rfl ?_
        · exact results_row_tmp_row rfl _ _ (w.heap.size) (w.heap.size + 1) 32 86 (tokOf i R) (errOf R) (0, 0) (0, 0) _ _ _ rfl rfl rfl f1 f2 Tryz.underlying32 rfl (info_rt _ (tokOf_size _ _)) Tryz.underlying86 rfl (info_e _ (errOf_size _))
        exact ⟨rfl, rows_below HB.out (by omega) (by omega) _ _⟩
    · have l3 : decide ((i : Int) + 1 < (s.size : Int)) = false := decide_eq_false (by omega)
      clear h46
      have hst : bt s i = 115 ∨ (¬ bt s i = 115 ∧ bt s i = 116) ∨ (¬ bt s i = 115 ∧ ¬ bt s i = 116 ∧ bt s i = 101) := by
        unfold steB at hste
        simp only [Bool.or_eq_true, beq_iff_eq] at hste
        omega
      clear hste
      rcases hst with h1 | ⟨h1, h2⟩ | ⟨h1, h2, h3⟩
      · have b115 : (((s[i]'hi).toNat : Int) == 115) = true := by rw [HX.out]; exact beq_iff_eq.2 h1
        clear h1
        go_enter Tryz.func52, Tryz.ntmps52
        go_wp2_with fail
        generalize hW : World.alloc (World.alloc w _) _ = W
        have hZ : W.heap[w.heap.size]? = some (.cells rTok 32 (0, 0)) := by rw [← hW]; exact (two_alloc w _ _).1
        have hE : W.heap[w.heap.size + 1]? = some (.cells (eCells 0 0) 86 (0, 0)) := by rw [← hW]; exact (two_alloc w _ _).2.1
        have HB : Hid (Below w.heap.size w W) := Lib.hid (by rw [← hW]; exact (two_alloc w _ _).2.2.1)
        have hwz : w.heap.size + 2 ≤ W.heap.size := by rw [← hW, (two_alloc w _ _).2.2.2]; omega
        clear hW
        refine (hsg _).mono ?_
        rintro e w7 ⟨rfl, rfl⟩
        go_wp2_with (first | (go_at_call 76; refine (hLt _).mono ?_; rintro e w9 ⟨rfl, rfl⟩) | (go_at_call 77; refine (hRn _).mono ?_; rintro e w9 ⟨rfl, rfl⟩))
        refine (hCl _).mono ?_
        rintro e w8 ⟨rfl, hb⟩
        have hZ := (hb.block _ (by omega)).trans hZ
        have hE := (hb.block _ (by omega)).trans hE
        have HB : Hid (Below w.heap.size w w8) := Lib.hid (HB.out.trans (hb.mono (by omega)))
        have hwz : w.heap.size + 2 ≤ w8.heap.size := by have := hb.size; omega
        clear hb
        clear hCl
        go_wp2_with (first | (refine wpList_store_row rfl 32 (.tmp 4) (.tmp 154) rfl (w.heap.size) (tokOf i R) rfl rfl 32 rTok hZ (info_rt _ (tokOf_size _ _)) (by rw [tokOf_size]; rfl) (tokOf_cells _ _) ?_) | (refine wpList_store_row rfl 86 (.tmp 6) (.tmp 156) rfl (w.heap.size + 1) (errOf R) rfl rfl 86 (eCells 0 0) (by exact (setRow_other _ _ _ _ (by omega)).trans hE) (info_e _ (errOf_size _)) (by rw [errOf_size]; rfl) (errOf_cells _) ?_))
        obtain ⟨f1, f2⟩ := rows_two (W := _) (p := w.heap.size) (q := w.heap.size + 1) (by omega) (c1 := tokOf i R) (c2 := errOf R) hZ hE
        refine bodyPost_ret (v := .tuple #[.agg (tokOf i R), .int .i64 (finOf R), .agg (errOf R)]) ?_ rfl ?_
        · exact results_row_tmp_row rfl _ _ (w.heap.size) (w.heap.size + 1) 32 86 (tokOf i R) (errOf R) (0, 0) (0, 0) _ _ _ rfl rfl rfl f1 f2 Tryz.underlying32 rfl (info_rt _ (tokOf_size _ _)) Tryz.underlying86 rfl (info_e _ (errOf_size _))
        exact ⟨rfl, rows_below HB.out (by omega) (by omega) _ _⟩
      · have b115 : (((s[i]'hi).toNat : Int) == 115) = false := by rw [HX.out]; exact beq_eq_false_iff_ne.2 h1
        have b116 : (((s[i]'hi).toNat : Int) == 116) = true := by rw [HX.out]; exact beq_iff_eq.2 h2
        clear h1 h2
        go_enter Tryz.func52, Tryz.ntmps52
        go_wp2_with fail
        generalize hW : World.alloc (World.alloc w _) _ = W
        have hZ : W.heap[w.heap.size]? = some (.cells rTok 32 (0, 0)) := by rw [← hW]; exact (two_alloc w _ _).1
        have hE : W.heap[w.heap.size + 1]? = some (.cells (eCells 0 0) 86 (0, 0)) := by rw [← hW]; exact (two_alloc w _ _).2.1
        have HB : Hid (Below w.heap.size w W) := Lib.hid (by rw [← hW]; exact (two_alloc w _ _).2.2.1)
        have hwz : w.heap.size + 2 ≤ W.heap.size := by rw [← hW, (two_alloc w _ _).2.2.2]; omega
        clear hW
        refine (hsg _).mono ?_
        rintro e w7 ⟨rfl, rfl⟩
        go_wp2_with (first | (go_at_call 76; refine (hLt _).mono ?_; rintro e w9 ⟨rfl, rfl⟩) | (go_at_call 77; refine (hRn _).mono ?_; rintro e w9 ⟨rfl, rfl⟩))
        refine (hCl _).mono ?_
        rintro e w8 ⟨rfl, hb⟩
        have hZ := (hb.block _ (by omega)).trans hZ
        have hE := (hb.block _ (by omega)).trans hE
        have HB : Hid (Below w.heap.size w w8) := Lib.hid (HB.out.trans (hb.mono (by omega)))
        have hwz : w.heap.size + 2 ≤ w8.heap.size := by have := hb.size; omega
        clear hb
        clear hCl
        go_wp2_with (first | (refine wpList_store_row rfl 32 (.tmp 4) (.tmp 154) rfl (w.heap.size) (tokOf i R) rfl rfl 32 rTok hZ (info_rt _ (tokOf_size _ _)) (by rw [tokOf_size]; rfl) (tokOf_cells _ _) ?_) | (refine wpList_store_row rfl 86 (.tmp 6) (.tmp 156) rfl (w.heap.size + 1) (errOf R) rfl rfl 86 (eCells 0 0) (by exact (setRow_other _ _ _ _ (by omega)).trans hE) (info_e _ (errOf_size _)) (by rw [errOf_size]; rfl) (errOf_cells _) ?_))
        obtain ⟨f1, f2⟩ := rows_two (W := _) (p := w.heap.size) (q := w.heap.size + 1) (by omega) (c1 := tokOf i R) (c2 := errOf R) hZ hE
        refine bodyPost_ret (v := .tuple #[.agg (tokOf i R), .int .i64 (finOf R), .agg (errOf R)]) ?_ rfl ?_
        · exact results_row_tmp_row rfl _ _ (w.heap.size) (w.heap.size + 1) 32 86 (tokOf i R) (errOf R) (0, 0) (0, 0) _ _ _ rfl rfl rfl f1 f2 Tryz.underlying32 rfl (info_rt _ (tokOf_size _ _)) Tryz.underlying86 rfl (info_e _ (errOf_size _))
        exact ⟨rfl, rows_below HB.out (by omega) (by omega) _ _⟩
      · have b115 : (((s[i]'hi).toNat : Int) == 115) = false := by rw [HX.out]; exact beq_eq_false_iff_ne.2 h1
        have b116 : (((s[i]'hi).toNat : Int) == 116) = false := by rw [HX.out]; exact beq_eq_false_iff_ne.2 h2
        have b101 : (((s[i]'hi).toNat : Int) == 101) = true := by rw [HX.out]; exact beq_iff_eq.2 h3
        clear h1 h2 h3
        go_enter Tryz.func52, Tryz.ntmps52
        go_wp2_with fail
        generalize hW : World.alloc (World.alloc w _) _ = W
        have hZ : W.heap[w.heap.size]? = some (.cells rTok 32 (0, 0)) := by rw [← hW]; exact (two_alloc w _ _).1
        have hE : W.heap[w.heap.size + 1]? = some (.cells (eCells 0 0) 86 (0, 0)) := by rw [← hW]; exact (two_alloc w _ _).2.1
        have HB : Hid (Below w.heap.size w W) := Lib.hid (by rw [← hW]; exact (two_alloc w _ _).2.2.1)
        have hwz : w.heap.size + 2 ≤ W.heap.size := by rw [← hW, (two_alloc w _ _).2.2.2]; omega
        clear hW
        refine (hsg _).mono ?_
        rintro e w7 ⟨rfl, rfl⟩
        go_wp2_with (first | (go_at_call 76; refine (hLt _).mono ?_; rintro e w9 ⟨rfl, rfl⟩) | (go_at_call 77; refine (hRn _).mono ?_; rintro e w9 ⟨rfl, rfl⟩))
        refine (hCl _).mono ?_
        rintro e w8 ⟨rfl, hb⟩
        have hZ := (hb.block _ (by omega)).trans hZ
        have hE := (hb.block _ (by omega)).trans hE
        have HB : Hid (Below w.heap.size w w8) := Lib.hid (HB.out.trans (hb.mono (by omega)))
        have hwz : w.heap.size + 2 ≤ w8.heap.size := by have := hb.size; omega
        clear hb
        clear hCl
        go_wp2_with (first | (refine wpList_store_row rfl 32 (.tmp 4) (.tmp 154) rfl (w.heap.size) (tokOf i R) rfl rfl 32 rTok hZ (info_rt _ (tokOf_size _ _)) (by rw [tokOf_size]; rfl) (tokOf_cells _ _) ?_) | (refine wpList_store_row rfl 86 (.tmp 6) (.tmp 156) rfl (w.heap.size + 1) (errOf R) rfl rfl 86 (eCells 0 0) (by exact (setRow_other _ _ _ _ (by omega)).trans hE) (info_e _ (errOf_size _)) (by rw [errOf_size]; rfl) (errOf_cells _) ?_))
        obtain ⟨f1, f2⟩ := rows_two (W := _) (p := w.heap.size) (q := w.heap.size + 1) (by omega) (c1 := tokOf i R) (c2 := errOf R) hZ hE
        refine bodyPost_ret (v := .tuple #[.agg (tokOf i R), .int .i64 (finOf R), .agg (errOf R)]) ?_ rfl ?_
        · exact results_row_tmp_row rfl _ _ (w.heap.size) (w.heap.size + 1) 32 86 (tokOf i R) (errOf R) (0, 0) (0, 0) _ _ _ rfl rfl rfl f1 f2 Tryz.underlying32 rfl (info_rt _ (tokOf_size _ _)) Tryz.underlying86 rfl (info_e _ (errOf_size _))
        exact ⟨rfl, rows_below HB.out (by omega) (by omega) _ _⟩
  · have hst : ¬ bt s i = 115 ∧ ¬ bt s i = 116 ∧ ¬ bt s i = 101 := by
      unfold steB at hste
      simp only [Bool.or_eq_true, beq_iff_eq] at hste
      omega
    have b115 : (((s[i]'hi).toNat : Int) == 115) = false := by rw [HX.out]; exact beq_eq_false_iff_ne.2 hst.1
    have b116 : (((s[i]'hi).toNat : Int) == 116) = false := by rw [HX.out]; exact beq_eq_false_iff_ne.2 hst.2.1
    have b101 : (((s[i]'hi).toNat : Int) == 101) = false := by rw [HX.out]; exact beq_eq_false_iff_ne.2 hst.2.2
    clear hv hste hst
    by_cases hi1 : i + 1 < s.size
    · have l3 : decide ((i : Int) + 1 < (s.size : Int)) = true := decide_eq_true (by omega)
      have l4 : decide (i + 1 < s.size) = true := decide_eq_true hi1
      go_enter Tryz.func52, Tryz.ntmps52
      go_wp2_with fail
      generalize hW : World.alloc (World.alloc w _) _ = W
      have hZ : W.heap[w.heap.size]? = some (.cells rTok 32 (0, 0)) := by rw [← hW]; exact (two_alloc w _ _).1
      have hE : W.heap[w.heap.size + 1]? = some (.cells (eCells 0 0) 86 (0, 0)) := by rw [← hW]; exact (two_alloc w _ _).2.1
      have HB : Hid (Below w.heap.size w W) := Lib.hid (by rw [← hW]; exact (two_alloc w _ _).2.2.1)
      have hwz : w.heap.size + 2 ≤ W.heap.size := by rw [← hW, (two_alloc w _ _).2.2.2]; omega
      clear hW
      refine (hsg _).mono ?_
      rintro e w7 ⟨rfl, rfl⟩
      go_wp2_with (first | (go_at_call 76; refine (hLt _).mono ?_; rintro e w9 ⟨rfl, rfl⟩) | (go_at_call 77; refine (hRn _).mono ?_; rintro e w9 ⟨rfl, rfl⟩))
      refine (hCl _).mono ?_
      rintro e w8 ⟨rfl, hb⟩
      have hZ := (hb.block _ (by omega)).trans hZ
      have hE := (hb.block _ (by omega)).trans hE
      have HB : Hid (Below w.heap.size w w8) := Lib.hid (HB.out.trans (hb.mono (by omega)))
      have hwz : w.heap.size + 2 ≤ w8.heap.size := by have := hb.size; omega
      clear hb
      clear hCl
      go_wp2_with (first | (refine wpList_store_row rfl 32 (.tmp 4) (.tmp 154) rfl (w.heap.size) (tokOf i R) rfl rfl 32 rTok hZ (info_rt _ (tokOf_size _ _)) (by rw [tokOf_size]; rfl) (tokOf_cells _ _) ?_) | (refine wpList_store_row rfl 86 (.tmp 6) (.tmp 156) rfl (w.heap.size + 1) (errOf R) rfl rfl 86 (eCells 0 0) (by exact (setRow_other _ _ _ _ (by omega)).trans hE) (info_e _ (errOf_size _)) (by rw [errOf_size]; rfl) (errOf_cells _) ?_))
      obtain ⟨f1, f2⟩ := rows_two (W := _) (p := w.heap.size) (q := w.heap.size + 1) (by omega) (c1 := tokOf i R) (c2 := errOf R) hZ hE
      refine bodyPost_ret (v := .tuple #[.agg (tokOf i R), .int .i64 (finOf R), .agg (errOf R)]) ?_ rfl ?_
      · exact results_row_tmp_row rfl _ _ (w.heap.size) (w.heap.size + 1) 32 86 (tokOf i R) (errOf R) (0, 0) (0, 0) _ _ _ rfl rfl rfl f1 f2 Tryz.underlying32 rfl (info_rt _ (tokOf_size _ _)) Tryz.underlying86 rfl (info_e _ (errOf_size _))
      exact ⟨rfl, rows_below HB.out (by omega) (by omega) _ _⟩
    · have l3 : decide ((i : Int) + 1 < (s.size : Int)) = false := decide_eq_false (by omega)
      go_enter Tryz.func52, Tryz.ntmps52
      go_wp2_with fail
      generalize hW : World.alloc (World.alloc w _) _ = W
      have hZ : W.heap[w.heap.size]? = some (.cells rTok 32 (0, 0)) := by rw [← hW]; exact (two_alloc w _ _).1
      have hE : W.heap[w.heap.size + 1]? = some (.cells (eCells 0 0) 86 (0, 0)) := by rw [← hW]; exact (two_alloc w _ _).2.1
      have HB : Hid (Below w.heap.size w W) := Lib.hid (by rw [← hW]; exact (two_alloc w _ _).2.2.1)
      have hwz : w.heap.size + 2 ≤ W.heap.size := by rw [← hW, (two_alloc w _ _).2.2.2]; omega
      clear hW
      refine (hsg _).mono ?_
      rintro e w7 ⟨rfl, rfl⟩
      go_wp2_with (first | (go_at_call 76; refine (hLt _).mono ?_; rintro e w9 ⟨rfl, rfl⟩) | (go_at_call 77; refine (hRn _).mono ?_; rintro e w9 ⟨rfl, rfl⟩))
      refine (hCl _).mono ?_
      rintro e w8 ⟨rfl, hb⟩
      have hZ := (hb.block _ (by omega)).trans hZ
      have hE := (hb.block _ (by omega)).trans hE
      have HB : Hid (Below w.heap.size w w8) := Lib.hid (HB.out.trans (hb.mono (by omega)))
      have hwz : w.heap.size + 2 ≤ w8.heap.size := by have := hb.size; omega
      clear hb
      clear hCl
      go_wp2_with (first | (refine wpList_store_row rfl 32 (.tmp 4) (.tmp 154) rfl (w.heap.size) (tokOf i R) rfl rfl 32 rTok hZ (info_rt _ (tokOf_size _ _)) (by rw [tokOf_size]; rfl) (tokOf_cells _ _) ?_) | (refine wpList_store_row rfl 86 (.tmp 6) (.tmp 156) rfl (w.heap.size + 1) (errOf R) rfl rfl 86 (eCells 0 0) (by exact (setRow_other _ _ _ _ (by omega)).trans hE) (info_e _ (errOf_size _)) (by rw [errOf_size]; rfl) (errOf_cells _) ?_))
      obtain ⟨f1, f2⟩ := rows_two (W := _) (p := w.heap.size) (q := w.heap.size + 1) (by omega) (c1 := tokOf i R) (c2 := errOf R) hZ hE
      refine bodyPost_ret (v := .tuple #[.agg (tokOf i R), .int .i64 (finOf R), .agg (errOf R)]) ?_ rfl ?_
      · exact results_row_tmp_row rfl _ _ (w.heap.size) (w.heap.size + 1) 32 86 (tokOf i R) (errOf R) (0, 0) (0, 0) _ _ _ rfl rfl rfl f1 f2 Tryz.underlying32 rfl (info_rt _ (tokOf_size _ _)) Tryz.underlying86 rfl (info_e _ (errOf_size _))
      exact ⟨rfl, rows_below HB.out (by omega) (by omega) _ _⟩
end Go.Proofs.YtmapaagdaojpaaaGreatDoor
namespace Go.Proofs.YtmapaagdaojpaaaGreatDoor
open Go.RowKit

set_option maxHeartbeats 4000000 in
set_option maxRecDepth 100000 in
theorem one_digit (s : ByteArray) (i : Nat) (w : World) (hs : s.size ≤ 1000000) (hi : i < s.size) (hq : ¬ (bt s i = 39 ∨ bt s i = 34)) (h3 : cls (bt s i).toNat = 3) (R : TokR) (hR : tokN s i = R) :
    Calls Tryz.prog 52 #[.string s, .int .i64 i] w fun e w' => e = .returned (oneV i R) ∧ Below w.heap.size w w' := by
  have HR := Lib.hid hR
  clear hR
  have hb0 := bt_lo s i
  have hb1 := bt_hi s i
  have l2 : decide (i < s.size) = true := decide_eq_true hi
  have wi : IntKind.i64.wrap ((i : Int) + 1) = i + 1 := IntWalk.i64_in _ (by omega)
  have wi2 : IntKind.i64.wrap ((i : Int) + 2) = i + 2 := IntWalk.i64_in _ (by omega)
  have HX : Hid (((s[i]'hi).toNat : Int) = bt s i) := bt_in hi
  have h36 : ¬ bt s i = 36 := fun q => by rw [q] at h3; exact absurd h3 (by decide)
  have h4 : ¬ cls (bt s i).toNat = 4 := by rw [h3]; decide
  have h2 : ¬ cls (bt s i).toNat = 2 := by rw [h3]; decide
  have hste : ¬ (steB (bt s i) = true ∧ bt s (i + 1) = 46) := by
    rintro ⟨q, _⟩
    have := byte_all (s := s) (i := i) (fun c => !steB c || cls c.toNat == 2) ste_letter
    simp only [q, Bool.not_true, Bool.false_or, beq_iff_eq] at this
    exact h2 this
  have b39 : (((s[i]'hi).toNat : Int) == 39) = false := by rw [HX.out]; exact beq_eq_false_iff_ne.2 (by omega)
  have b34 : (((s[i]'hi).toNat : Int) == 34) = false := by rw [HX.out]; exact beq_eq_false_iff_ne.2 (by omega)
  have b36 : (((s[i]'hi).toNat : Int) == 36) = false := by rw [HX.out]; exact beq_eq_false_iff_ne.2 h36
  have hsg : ∀ w, Calls Tryz.prog 41 #[.int .u8 ((s[i]'hi).toNat : Int)] w fun e w' => e = .returned (.bool false) ∧ w' = w := fun w => by
    have := rIsSign_any _ (bt_lo s i) w
    rw [show (cls (bt s i).toNat == 4) = false by simpa using h4] at this
    rw [HX.out]; exact this
  have hLt : ∀ w, Calls Tryz.prog 76 #[.int .u8 ((s[i]'hi).toNat : Int)] w fun e w' => e = .returned (.bool false) ∧ w' = w := fun w => by
    have := rLetter_any _ (bt_lo s i) w
    rw [show (cls (bt s i).toNat == 2) = false by simpa using h2] at this
    rw [HX.out]; exact this
  have hst : ¬ bt s i = 115 ∧ ¬ bt s i = 116 ∧ ¬ bt s i = 101 := ⟨fun q => h2 (by rw [q]; decide), fun q => h2 (by rw [q]; decide), fun q => h2 (by rw [q]; decide)⟩
  have b115 : (((s[i]'hi).toNat : Int) == 115) = false := by rw [HX.out]; exact beq_eq_false_iff_ne.2 hst.1
  have b116 : (((s[i]'hi).toNat : Int) == 116) = false := by rw [HX.out]; exact beq_eq_false_iff_ne.2 hst.2.1
  have b101 : (((s[i]'hi).toNat : Int) == 101) = false := by rw [HX.out]; exact beq_eq_false_iff_ne.2 hst.2.2
  have hDg : ∀ w, Calls Tryz.prog 69 #[.int .u8 ((s[i]'hi).toNat : Int)] w fun e w' => e = .returned (.bool true) ∧ w' = w := fun w => by
    have := rDigit_any _ (bt_lo s i) w
    rw [h3] at this
    rw [HX.out]; exact this
  have HC := Lib.hid (tok_clear4 HR.out hq h4 hste h2 (.inl h3))
  clear hq h4 h36 h2 h3 hst hste hb0 hb1
  by_cases hi1 : i + 1 < s.size
  · have l3 : decide ((i : Int) + 1 < (s.size : Int)) = true := decide_eq_true (by omega)
    have l4 : decide (i + 1 < s.size) = true := decide_eq_true hi1
    go_enter Tryz.func52, Tryz.ntmps52
    go_wp2_with fail
    generalize hW : World.alloc (World.alloc w _) _ = W
    have hZ : W.heap[w.heap.size]? = some (.cells rTok 32 (0, 0)) := by rw [← hW]; exact (two_alloc w _ _).1
    have hE : W.heap[w.heap.size + 1]? = some (.cells (eCells 0 0) 86 (0, 0)) := by rw [← hW]; exact (two_alloc w _ _).2.1
    have HB : Hid (Below w.heap.size w W) := Lib.hid (by rw [← hW]; exact (two_alloc w _ _).2.2.1)
    have hwz : w.heap.size + 2 ≤ W.heap.size := by rw [← hW, (two_alloc w _ _).2.2.2]; omega
    clear hW
    refine (hsg _).mono ?_
    rintro e w7 ⟨rfl, rfl⟩
    go_wp2_with (first | (go_at_call 76; refine (hLt _).mono ?_; rintro e w9 ⟨rfl, rfl⟩) | (go_at_call 69; refine (hDg _).mono ?_; rintro e w9 ⟨rfl, rfl⟩))
    go_loopw [14] (fun x wr => ∃ k : Nat, i + 1 ≤ k ∧ k ≤ s.size ∧ x = .int .i64 k ∧ wr = w9 ∧ Hid (digE s k = digE s (i + 1))) (fun x _ => s.size - (intOf x).toNat)
    case atStart => exact ⟨i + 1, Nat.le_refl _, by omega, by go_num, rfl, rfl⟩
    case round =>
      obtain ⟨k, hk1, hk2, rfl, rfl, HE⟩ := hrel
      clear hLt hsg
      by_cases hkl : k < s.size
      · have m1 : decide ((k : Int) < (s.size : Int)) = true := decide_eq_true (by omega)
        have m2 : decide (k < s.size) = true := decide_eq_true hkl
        have mk : IntKind.i64.wrap ((k : Int) + 1) = k + 1 := IntWalk.i64_in _ (by omega)
        have HXk : Hid (((s[k]'hkl).toNat : Int) = bt s k) := bt_in hkl
        have hDk : ∀ w, Calls Tryz.prog 69 #[.int .u8 ((s[k]'hkl).toNat : Int)] w fun e w' => e = .returned (.bool (cls (bt s k).toNat == 3)) ∧ w' = w := fun w => by
          rw [HXk.out]; exact rDigit_any _ (bt_lo s k) w
        by_cases hd : cls (bt s k).toNat = 3
        · have HE2 : Hid (digE s (k + 1) = digE s (i + 1)) := Lib.hid (by rw [← HE.out]; exact (runTo_step hkl (by show (cls (bt s k).toNat == 3) = true; simpa using hd)).symm)
          rw [show (cls (bt s k).toNat == 3) = true by simpa using hd] at hDk
          clear hd
          go_wp2_with (first | (go_at_call 69; refine (hDk _).mono ?_; rintro e w9 ⟨rfl, rfl⟩))
          go_roundw
          case rel => exact ⟨k + 1, by omega, by omega, by go_num, by trivial, HE2⟩
          case measure => simp [intOf]; omega
        · have HE2 : Hid (digE s (i + 1) = k) := Lib.hid (by rw [← HE.out]; exact runTo_stop (by rintro ⟨_, q⟩; exact hd (by simpa using q)))
          rw [show (cls (bt s k).toNat == 3) = false by simpa using hd] at hDk
          clear hd
          have hC2 := HC.out
          rw [HE2.out] at hC2
          have hCl := fun w => clear_any s 4 i k 43 w hs hk2
          rw [hC2] at hCl
          unfold rtCells oneV at hCl
          have c1 : (0 : Int) ≤ i := by omega
          have c2 : (i : Int) ≤ k := by omega
          have c3 : (k : Int) ≤ s.size := by omega
          clear hC2
          go_wp2_with (first | (go_at_call 69; refine (hDk _).mono ?_; rintro e w9 ⟨rfl, rfl⟩))
          refine (hCl _).mono ?_
          rintro e w8 ⟨rfl, hb⟩
          have hZ := (hb.block _ (by omega)).trans hZ
          have hE := (hb.block _ (by omega)).trans hE
          have HB : Hid (Below w.heap.size w w8) := Lib.hid (HB.out.trans (hb.mono (by omega)))
          have hwz : w.heap.size + 2 ≤ w8.heap.size := by have := hb.size; omega
          clear hb
          clear hCl
          go_wp2_with (first | (refine wpList_store_row rfl 32 (.tmp 4) (.tmp 191) rfl (w.heap.size) (tokOf i R) rfl rfl 32 rTok hZ (info_rt _ (tokOf_size _ _)) (by rw [tokOf_size]; rfl) (tokOf_cells _ _) ?_) | (refine wpList_store_row rfl 86 (.tmp 6) (.tmp 193) rfl (w.heap.size + 1) (errOf R) rfl rfl 86 (eCells 0 0) (by exact (setRow_other _ _ _ _ (by omega)).trans hE) (info_e _ (errOf_size _)) (by rw [errOf_size]; rfl) (errOf_cells _) ?_))
          obtain ⟨f1, f2⟩ := rows_two (W := _) (p := w.heap.size) (q := w.heap.size + 1) (by omega) (c1 := tokOf i R) (c2 := errOf R) hZ hE
          refine bodyPost_ret (v := .tuple #[.agg (tokOf i R), .int .i64 (finOf R), .agg (errOf R)]) ?_ rfl ?_
          · exact results_row_tmp_row rfl _ _ (w.heap.size) (w.heap.size + 1) 32 86 (tokOf i R) (errOf R) (0, 0) (0, 0) _ _ _ rfl rfl rfl f1 f2 Tryz.underlying32 rfl (info_rt _ (tokOf_size _ _)) Tryz.underlying86 rfl (info_e _ (errOf_size _))
          exact ⟨rfl, rows_below HB.out (by omega) (by omega) _ _⟩
      · have m1 : decide ((k : Int) < (s.size : Int)) = false := decide_eq_false (by omega)
        have HE2 : Hid (digE s (i + 1) = k) := Lib.hid (by rw [← HE.out]; exact runTo_stop (by omega))
        have hC2 := HC.out
        rw [HE2.out] at hC2
        have hCl := fun w => clear_any s 4 i k 43 w hs hk2
        rw [hC2] at hCl
        unfold rtCells oneV at hCl
        have c1 : (0 : Int) ≤ i := by omega
        have c2 : (i : Int) ≤ k := by omega
        have c3 : (k : Int) ≤ s.size := by omega
        clear hC2
        go_wp2_with fail
        refine (hCl _).mono ?_
        rintro e w8 ⟨rfl, hb⟩
        have hZ := (hb.block _ (by omega)).trans hZ
        have hE := (hb.block _ (by omega)).trans hE
        have HB : Hid (Below w.heap.size w w8) := Lib.hid (HB.out.trans (hb.mono (by omega)))
        have hwz : w.heap.size + 2 ≤ w8.heap.size := by have := hb.size; omega
        clear hb
        clear hCl
        go_wp2_with (first | (refine wpList_store_row rfl 32 (.tmp 4) (.tmp 191) rfl (w.heap.size) (tokOf i R) rfl rfl 32 rTok hZ (info_rt _ (tokOf_size _ _)) (by rw [tokOf_size]; rfl) (tokOf_cells _ _) ?_) | (refine wpList_store_row rfl 86 (.tmp 6) (.tmp 193) rfl (w.heap.size + 1) (errOf R) rfl rfl 86 (eCells 0 0) (by exact (setRow_other _ _ _ _ (by omega)).trans hE) (info_e _ (errOf_size _)) (by rw [errOf_size]; rfl) (errOf_cells _) ?_))
        obtain ⟨f1, f2⟩ := rows_two (W := _) (p := w.heap.size) (q := w.heap.size + 1) (by omega) (c1 := tokOf i R) (c2 := errOf R) hZ hE
        refine bodyPost_ret (v := .tuple #[.agg (tokOf i R), .int .i64 (finOf R), .agg (errOf R)]) ?_ rfl ?_
        · exact results_row_tmp_row rfl _ _ (w.heap.size) (w.heap.size + 1) 32 86 (tokOf i R) (errOf R) (0, 0) (0, 0) _ _ _ rfl rfl rfl f1 f2 Tryz.underlying32 rfl (info_rt _ (tokOf_size _ _)) Tryz.underlying86 rfl (info_e _ (errOf_size _))
        exact ⟨rfl, rows_below HB.out (by omega) (by omega) _ _⟩
  · have l3 : decide ((i : Int) + 1 < (s.size : Int)) = false := decide_eq_false (by omega)
    go_enter Tryz.func52, Tryz.ntmps52
    go_wp2_with fail
    generalize hW : World.alloc (World.alloc w _) _ = W
    have hZ : W.heap[w.heap.size]? = some (.cells rTok 32 (0, 0)) := by rw [← hW]; exact (two_alloc w _ _).1
    have hE : W.heap[w.heap.size + 1]? = some (.cells (eCells 0 0) 86 (0, 0)) := by rw [← hW]; exact (two_alloc w _ _).2.1
    have HB : Hid (Below w.heap.size w W) := Lib.hid (by rw [← hW]; exact (two_alloc w _ _).2.2.1)
    have hwz : w.heap.size + 2 ≤ W.heap.size := by rw [← hW, (two_alloc w _ _).2.2.2]; omega
    clear hW
    refine (hsg _).mono ?_
    rintro e w7 ⟨rfl, rfl⟩
    go_wp2_with (first | (go_at_call 76; refine (hLt _).mono ?_; rintro e w9 ⟨rfl, rfl⟩) | (go_at_call 69; refine (hDg _).mono ?_; rintro e w9 ⟨rfl, rfl⟩))
    go_loopw [14] (fun x wr => ∃ k : Nat, i + 1 ≤ k ∧ k ≤ s.size ∧ x = .int .i64 k ∧ wr = w9 ∧ Hid (digE s k = digE s (i + 1))) (fun x _ => s.size - (intOf x).toNat)
    case atStart => exact ⟨i + 1, Nat.le_refl _, by omega, by go_num, rfl, rfl⟩
    case round =>
      obtain ⟨k, hk1, hk2, rfl, rfl, HE⟩ := hrel
      clear hLt hsg
      by_cases hkl : k < s.size
      · exfalso; omega
      · have m1 : decide ((k : Int) < (s.size : Int)) = false := decide_eq_false (by omega)
        have HE2 : Hid (digE s (i + 1) = k) := Lib.hid (by rw [← HE.out]; exact runTo_stop (by omega))
        have hC2 := HC.out
        rw [HE2.out] at hC2
        have hCl := fun w => clear_any s 4 i k 43 w hs hk2
        rw [hC2] at hCl
        unfold rtCells oneV at hCl
        have c1 : (0 : Int) ≤ i := by omega
        have c2 : (i : Int) ≤ k := by omega
        have c3 : (k : Int) ≤ s.size := by omega
        clear hC2
        go_wp2_with fail
        refine (hCl _).mono ?_
        rintro e w8 ⟨rfl, hb⟩
        have hZ := (hb.block _ (by omega)).trans hZ
        have hE := (hb.block _ (by omega)).trans hE
        have HB : Hid (Below w.heap.size w w8) := Lib.hid (HB.out.trans (hb.mono (by omega)))
        have hwz : w.heap.size + 2 ≤ w8.heap.size := by have := hb.size; omega
        clear hb
        clear hCl
        go_wp2_with (first | (refine wpList_store_row rfl 32 (.tmp 4) (.tmp 191) rfl (w.heap.size) (tokOf i R) rfl rfl 32 rTok hZ (info_rt _ (tokOf_size _ _)) (by rw [tokOf_size]; rfl) (tokOf_cells _ _) ?_) | (refine wpList_store_row rfl 86 (.tmp 6) (.tmp 193) rfl (w.heap.size + 1) (errOf R) rfl rfl 86 (eCells 0 0) (by exact (setRow_other _ _ _ _ (by omega)).trans hE) (info_e _ (errOf_size _)) (by rw [errOf_size]; rfl) (errOf_cells _) ?_))
        obtain ⟨f1, f2⟩ := rows_two (W := _) (p := w.heap.size) (q := w.heap.size + 1) (by omega) (c1 := tokOf i R) (c2 := errOf R) hZ hE
        refine bodyPost_ret (v := .tuple #[.agg (tokOf i R), .int .i64 (finOf R), .agg (errOf R)]) ?_ rfl ?_
        · exact results_row_tmp_row rfl _ _ (w.heap.size) (w.heap.size + 1) 32 86 (tokOf i R) (errOf R) (0, 0) (0, 0) _ _ _ rfl rfl rfl f1 f2 Tryz.underlying32 rfl (info_rt _ (tokOf_size _ _)) Tryz.underlying86 rfl (info_e _ (errOf_size _))
        exact ⟨rfl, rows_below HB.out (by omega) (by omega) _ _⟩
set_option maxHeartbeats 4000000 in
set_option maxRecDepth 100000 in
theorem one_minus (s : ByteArray) (i : Nat) (w : World) (hs : s.size ≤ 1000000) (hi : i < s.size) (h45 : bt s i = 45) (h3 : cls (bt s (i + 1)).toNat = 3) (R : TokR) (hR : tokN s i = R) :
    Calls Tryz.prog 52 #[.string s, .int .i64 i] w fun e w' => e = .returned (oneV i R) ∧ Below w.heap.size w w' := by
  have HR := Lib.hid hR
  clear hR
  have hb0 := bt_lo s i
  have hb1 := bt_hi s i
  have l2 : decide (i < s.size) = true := decide_eq_true hi
  have wi : IntKind.i64.wrap ((i : Int) + 1) = i + 1 := IntWalk.i64_in _ (by omega)
  have wi2 : IntKind.i64.wrap ((i : Int) + 2) = i + 2 := IntWalk.i64_in _ (by omega)
  have HX : Hid (((s[i]'hi).toNat : Int) = bt s i) := bt_in hi
  have hq : ¬ (bt s i = 39 ∨ bt s i = 34) := by omega
  have h36 : ¬ bt s i = 36 := by omega
  have h4 : ¬ cls (bt s i).toNat = 4 := by rw [h45]; decide
  have h2 : ¬ cls (bt s i).toNat = 2 := by rw [h45]; decide
  have hste : ¬ (steB (bt s i) = true ∧ bt s (i + 1) = 46) := by rw [h45]; rintro ⟨q, _⟩; exact absurd q (by decide)
  have b39 : (((s[i]'hi).toNat : Int) == 39) = false := by rw [HX.out]; exact beq_eq_false_iff_ne.2 (by omega)
  have b34 : (((s[i]'hi).toNat : Int) == 34) = false := by rw [HX.out]; exact beq_eq_false_iff_ne.2 (by omega)
  have b36 : (((s[i]'hi).toNat : Int) == 36) = false := by rw [HX.out]; exact beq_eq_false_iff_ne.2 h36
  have b45 : (((s[i]'hi).toNat : Int) == 45) = true := by rw [HX.out]; exact beq_iff_eq.2 (by omega)
  have hsg : ∀ w, Calls Tryz.prog 41 #[.int .u8 ((s[i]'hi).toNat : Int)] w fun e w' => e = .returned (.bool false) ∧ w' = w := fun w => by
    have := rIsSign_any _ (bt_lo s i) w
    rw [show (cls (bt s i).toNat == 4) = false by simpa using h4] at this
    rw [HX.out]; exact this
  have hLt : ∀ w, Calls Tryz.prog 76 #[.int .u8 ((s[i]'hi).toNat : Int)] w fun e w' => e = .returned (.bool false) ∧ w' = w := fun w => by
    have := rLetter_any _ (bt_lo s i) w
    rw [show (cls (bt s i).toNat == 2) = false by simpa using h2] at this
    rw [HX.out]; exact this
  have hst : ¬ bt s i = 115 ∧ ¬ bt s i = 116 ∧ ¬ bt s i = 101 := ⟨fun q => h2 (by rw [q]; decide), fun q => h2 (by rw [q]; decide), fun q => h2 (by rw [q]; decide)⟩
  have b115 : (((s[i]'hi).toNat : Int) == 115) = false := by rw [HX.out]; exact beq_eq_false_iff_ne.2 hst.1
  have b116 : (((s[i]'hi).toNat : Int) == 116) = false := by rw [HX.out]; exact beq_eq_false_iff_ne.2 hst.2.1
  have b101 : (((s[i]'hi).toNat : Int) == 101) = false := by rw [HX.out]; exact beq_eq_false_iff_ne.2 hst.2.2
  have hDg : ∀ w, Calls Tryz.prog 69 #[.int .u8 ((s[i]'hi).toNat : Int)] w fun e w' => e = .returned (.bool false) ∧ w' = w := fun w => by
    have := rDigit_any _ (bt_lo s i) w
    rw [show (cls (bt s i).toNat == 3) = false by rw [h45]; rfl] at this
    rw [HX.out]; exact this
  have hi1 : i + 1 < s.size := Nat.lt_of_not_le fun r => by rw [bt_out r] at h3; exact absurd h3 (by decide)
  have l3 : decide ((i : Int) + 1 < (s.size : Int)) = true := decide_eq_true (by omega)
  have l4 : decide (i + 1 < s.size) = true := decide_eq_true hi1
  obtain ⟨j, hj⟩ : ∃ j, j = i + 1 := ⟨_, rfl⟩
  have HX1 : Hid (((s[i + 1]'hi1).toNat : Int) = bt s (i + 1)) := bt_in hi1
  have hDn : ∀ w, Calls Tryz.prog 69 #[.int .u8 ((s[i + 1]'hi1).toNat : Int)] w fun e w' => e = .returned (.bool true) ∧ w' = w := fun w => by
    have := rDigit_any _ (bt_lo s (i + 1)) w
    rw [h3] at this
    rw [HX1.out]; exact this
  have HC := Lib.hid (tok_clear4 HR.out hq h4 hste h2 (.inr ⟨h45, h3⟩))
  clear hj hq h4 h36 h2 h3 hst hste hb0 hb1 h45
  go_enter Tryz.func52, Tryz.ntmps52
  go_wp2_with fail
  generalize hW : World.alloc (World.alloc w _) _ = W
  have hZ : W.heap[w.heap.size]? = some (.cells rTok 32 (0, 0)) := by rw [← hW]; exact (two_alloc w _ _).1
  have hE : W.heap[w.heap.size + 1]? = some (.cells (eCells 0 0) 86 (0, 0)) := by rw [← hW]; exact (two_alloc w _ _).2.1
  have HB : Hid (Below w.heap.size w W) := Lib.hid (by rw [← hW]; exact (two_alloc w _ _).2.2.1)
  have hwz : w.heap.size + 2 ≤ W.heap.size := by rw [← hW, (two_alloc w _ _).2.2.2]; omega
  clear hW
  refine (hsg _).mono ?_
  rintro e w7 ⟨rfl, rfl⟩
  go_wp2_with (first | (go_at_call 76; refine (hLt _).mono ?_; rintro e w9 ⟨rfl, rfl⟩) | (go_at_call_of 69 hi; refine (hDg _).mono ?_; rintro e w9 ⟨rfl, rfl⟩) | (go_at_call 69; refine (hDn _).mono ?_; rintro e w9 ⟨rfl, rfl⟩))
  go_loopw [14] (fun x wr => ∃ k : Nat, i + 1 ≤ k ∧ k ≤ s.size ∧ x = .int .i64 k ∧ wr = w9 ∧ Hid (digE s k = digE s (i + 1))) (fun x _ => s.size - (intOf x).toNat)
  case atStart => exact ⟨i + 1, Nat.le_refl _, by omega, by go_num, rfl, rfl⟩
  case round =>
    obtain ⟨k, hk1, hk2, rfl, rfl, HE⟩ := hrel
    clear hLt hsg
    by_cases hkl : k < s.size
    · have m1 : decide ((k : Int) < (s.size : Int)) = true := decide_eq_true (by omega)
      have m2 : decide (k < s.size) = true := decide_eq_true hkl
      have mk : IntKind.i64.wrap ((k : Int) + 1) = k + 1 := IntWalk.i64_in _ (by omega)
      have HXk : Hid (((s[k]'hkl).toNat : Int) = bt s k) := bt_in hkl
      have hDk : ∀ w, Calls Tryz.prog 69 #[.int .u8 ((s[k]'hkl).toNat : Int)] w fun e w' => e = .returned (.bool (cls (bt s k).toNat == 3)) ∧ w' = w := fun w => by
        rw [HXk.out]; exact rDigit_any _ (bt_lo s k) w
      by_cases hd : cls (bt s k).toNat = 3
      · have HE2 : Hid (digE s (k + 1) = digE s (i + 1)) := Lib.hid (by rw [← HE.out]; exact (runTo_step hkl (by show (cls (bt s k).toNat == 3) = true; simpa using hd)).symm)
        rw [show (cls (bt s k).toNat == 3) = true by simpa using hd] at hDk
        clear hd
        go_wp2_with (first | (go_at_call 69; refine (hDk _).mono ?_; rintro e w9 ⟨rfl, rfl⟩))
        go_roundw
        case rel => exact ⟨k + 1, by omega, by omega, by go_num, by trivial, HE2⟩
        case measure => simp [intOf]; omega
      · have HE2 : Hid (digE s (i + 1) = k) := Lib.hid (by rw [← HE.out]; exact runTo_stop (by rintro ⟨_, q⟩; exact hd (by simpa using q)))
        rw [show (cls (bt s k).toNat == 3) = false by simpa using hd] at hDk
        clear hd
        have hC2 := HC.out
        rw [HE2.out] at hC2
        have hCl := fun w => clear_any s 4 i k 43 w hs hk2
        rw [hC2] at hCl
        unfold rtCells oneV at hCl
        have c1 : (0 : Int) ≤ i := by omega
        have c2 : (i : Int) ≤ k := by omega
        have c3 : (k : Int) ≤ s.size := by omega
        clear hC2
        go_wp2_with (first | (go_at_call 69; refine (hDk _).mono ?_; rintro e w9 ⟨rfl, rfl⟩))
        refine (hCl _).mono ?_
        rintro e w8 ⟨rfl, hb⟩
        have hZ := (hb.block _ (by omega)).trans hZ
        have hE := (hb.block _ (by omega)).trans hE
        have HB : Hid (Below w.heap.size w w8) := Lib.hid (HB.out.trans (hb.mono (by omega)))
        have hwz : w.heap.size + 2 ≤ w8.heap.size := by have := hb.size; omega
        clear hb
        clear hCl
        go_wp2_with (first | (refine wpList_store_row rfl 32 (.tmp 4) (.tmp 191) rfl (w.heap.size) (tokOf i R) rfl rfl 32 rTok hZ (info_rt _ (tokOf_size _ _)) (by rw [tokOf_size]; rfl) (tokOf_cells _ _) ?_) | (refine wpList_store_row rfl 86 (.tmp 6) (.tmp 193) rfl (w.heap.size + 1) (errOf R) rfl rfl 86 (eCells 0 0) (by exact (setRow_other _ _ _ _ (by omega)).trans hE) (info_e _ (errOf_size _)) (by rw [errOf_size]; rfl) (errOf_cells _) ?_))
        obtain ⟨f1, f2⟩ := rows_two (W := _) (p := w.heap.size) (q := w.heap.size + 1) (by omega) (c1 := tokOf i R) (c2 := errOf R) hZ hE
        refine bodyPost_ret (v := .tuple #[.agg (tokOf i R), .int .i64 (finOf R), .agg (errOf R)]) ?_ rfl ?_
        · exact results_row_tmp_row rfl _ _ (w.heap.size) (w.heap.size + 1) 32 86 (tokOf i R) (errOf R) (0, 0) (0, 0) _ _ _ rfl rfl rfl f1 f2 Tryz.underlying32 rfl (info_rt _ (tokOf_size _ _)) Tryz.underlying86 rfl (info_e _ (errOf_size _))
        exact ⟨rfl, rows_below HB.out (by omega) (by omega) _ _⟩
    · have m1 : decide ((k : Int) < (s.size : Int)) = false := decide_eq_false (by omega)
      have HE2 : Hid (digE s (i + 1) = k) := Lib.hid (by rw [← HE.out]; exact runTo_stop (by omega))
      have hC2 := HC.out
      rw [HE2.out] at hC2
      have hCl := fun w => clear_any s 4 i k 43 w hs hk2
      rw [hC2] at hCl
      unfold rtCells oneV at hCl
      have c1 : (0 : Int) ≤ i := by omega
      have c2 : (i : Int) ≤ k := by omega
      have c3 : (k : Int) ≤ s.size := by omega
      clear hC2
      go_wp2_with fail
      refine (hCl _).mono ?_
      rintro e w8 ⟨rfl, hb⟩
      have hZ := (hb.block _ (by omega)).trans hZ
      have hE := (hb.block _ (by omega)).trans hE
      have HB : Hid (Below w.heap.size w w8) := Lib.hid (HB.out.trans (hb.mono (by omega)))
      have hwz : w.heap.size + 2 ≤ w8.heap.size := by have := hb.size; omega
      clear hb
      clear hCl
      go_wp2_with (first | (refine wpList_store_row rfl 32 (.tmp 4) (.tmp 191) rfl (w.heap.size) (tokOf i R) rfl rfl 32 rTok hZ (info_rt _ (tokOf_size _ _)) (by rw [tokOf_size]; rfl) (tokOf_cells _ _) ?_) | (refine wpList_store_row rfl 86 (.tmp 6) (.tmp 193) rfl (w.heap.size + 1) (errOf R) rfl rfl 86 (eCells 0 0) (by exact (setRow_other _ _ _ _ (by omega)).trans hE) (info_e _ (errOf_size _)) (by rw [errOf_size]; rfl) (errOf_cells _) ?_))
      obtain ⟨f1, f2⟩ := rows_two (W := _) (p := w.heap.size) (q := w.heap.size + 1) (by omega) (c1 := tokOf i R) (c2 := errOf R) hZ hE
      refine bodyPost_ret (v := .tuple #[.agg (tokOf i R), .int .i64 (finOf R), .agg (errOf R)]) ?_ rfl ?_
      · exact results_row_tmp_row rfl _ _ (w.heap.size) (w.heap.size + 1) 32 86 (tokOf i R) (errOf R) (0, 0) (0, 0) _ _ _ rfl rfl rfl f1 f2 Tryz.underlying32 rfl (info_rt _ (tokOf_size _ _)) Tryz.underlying86 rfl (info_e _ (errOf_size _))
      exact ⟨rfl, rows_below HB.out (by omega) (by omega) _ _⟩
set_option maxHeartbeats 4000000 in
set_option maxRecDepth 100000 in
theorem one_none (s : ByteArray) (i : Nat) (w : World) (hs : s.size ≤ 1000000) (hi : i < s.size) (hq : ¬ (bt s i = 39 ∨ bt s i = 34)) (h4 : ¬ cls (bt s i).toNat = 4) (h36 : ¬ bt s i = 36) (h2 : ¬ cls (bt s i).toNat = 2) (h3 : ¬ cls (bt s i).toNat = 3) (h45 : ¬ bt s i = 45) (R : TokR) (hR : tokN s i = R) :
    Calls Tryz.prog 52 #[.string s, .int .i64 i] w fun e w' => e = .returned (oneV i R) ∧ Below w.heap.size w w' := by
  have HR := Lib.hid hR
  clear hR
  have hb0 := bt_lo s i
  have hb1 := bt_hi s i
  have l2 : decide (i < s.size) = true := decide_eq_true hi
  have wi : IntKind.i64.wrap ((i : Int) + 1) = i + 1 := IntWalk.i64_in _ (by omega)
  have wi2 : IntKind.i64.wrap ((i : Int) + 2) = i + 2 := IntWalk.i64_in _ (by omega)
  have HX : Hid (((s[i]'hi).toNat : Int) = bt s i) := bt_in hi
  have hste : ¬ (steB (bt s i) = true ∧ bt s (i + 1) = 46) := by
    rintro ⟨q, _⟩
    have := byte_all (s := s) (i := i) (fun c => !steB c || cls c.toNat == 2) ste_letter
    simp only [q, Bool.not_true, Bool.false_or, beq_iff_eq] at this
    exact h2 this
  have b39 : (((s[i]'hi).toNat : Int) == 39) = false := by rw [HX.out]; exact beq_eq_false_iff_ne.2 (by omega)
  have b34 : (((s[i]'hi).toNat : Int) == 34) = false := by rw [HX.out]; exact beq_eq_false_iff_ne.2 (by omega)
  have b36 : (((s[i]'hi).toNat : Int) == 36) = false := by rw [HX.out]; exact beq_eq_false_iff_ne.2 h36
  have b45 : (((s[i]'hi).toNat : Int) == 45) = false := by rw [HX.out]; exact beq_eq_false_iff_ne.2 h45
  have hsg : ∀ w, Calls Tryz.prog 41 #[.int .u8 ((s[i]'hi).toNat : Int)] w fun e w' => e = .returned (.bool false) ∧ w' = w := fun w => by
    have := rIsSign_any _ (bt_lo s i) w
    rw [show (cls (bt s i).toNat == 4) = false by simpa using h4] at this
    rw [HX.out]; exact this
  have hLt : ∀ w, Calls Tryz.prog 76 #[.int .u8 ((s[i]'hi).toNat : Int)] w fun e w' => e = .returned (.bool false) ∧ w' = w := fun w => by
    have := rLetter_any _ (bt_lo s i) w
    rw [show (cls (bt s i).toNat == 2) = false by simpa using h2] at this
    rw [HX.out]; exact this
  have hst : ¬ bt s i = 115 ∧ ¬ bt s i = 116 ∧ ¬ bt s i = 101 := ⟨fun q => h2 (by rw [q]; decide), fun q => h2 (by rw [q]; decide), fun q => h2 (by rw [q]; decide)⟩
  have b115 : (((s[i]'hi).toNat : Int) == 115) = false := by rw [HX.out]; exact beq_eq_false_iff_ne.2 hst.1
  have b116 : (((s[i]'hi).toNat : Int) == 116) = false := by rw [HX.out]; exact beq_eq_false_iff_ne.2 hst.2.1
  have b101 : (((s[i]'hi).toNat : Int) == 101) = false := by rw [HX.out]; exact beq_eq_false_iff_ne.2 hst.2.2
  have hDg : ∀ w, Calls Tryz.prog 69 #[.int .u8 ((s[i]'hi).toNat : Int)] w fun e w' => e = .returned (.bool false) ∧ w' = w := fun w => by
    have := rDigit_any _ (bt_lo s i) w
    rw [show (cls (bt s i).toNat == 3) = false by simpa using h3] at this
    rw [HX.out]; exact this
  have HD : Hid (R = .bad 40 i) := Lib.hid (tok_none HR.out hq h4 hste h2 (by rintro (q | q); exact h3 q; exact h45 q.1) h36)
  clear hq h4 h36 h2 h3 hst hste hb0 hb1 h45
  by_cases hi1 : i + 1 < s.size
  · have l3 : decide ((i : Int) + 1 < (s.size : Int)) = true := decide_eq_true (by omega)
    have l4 : decide (i + 1 < s.size) = true := decide_eq_true hi1
    go_enter Tryz.func52, Tryz.ntmps52
    go_wp2_with fail
    generalize hW : World.alloc (World.alloc w _) _ = W
    have hZ : W.heap[w.heap.size]? = some (.cells rTok 32 (0, 0)) := by rw [← hW]; exact (two_alloc w _ _).1
    have hE : W.heap[w.heap.size + 1]? = some (.cells (eCells 0 0) 86 (0, 0)) := by rw [← hW]; exact (two_alloc w _ _).2.1
    have HB : Hid (Below w.heap.size w W) := Lib.hid (by rw [← hW]; exact (two_alloc w _ _).2.2.1)
    have hwz : w.heap.size + 2 ≤ W.heap.size := by rw [← hW, (two_alloc w _ _).2.2.2]; omega
    clear hW
    refine (hsg _).mono ?_
    rintro e w7 ⟨rfl, rfl⟩
    go_wp2_with (first | (go_at_call 76; refine (hLt _).mono ?_; rintro e w9 ⟨rfl, rfl⟩) | (go_at_call 69; refine (hDg _).mono ?_; rintro e w9 ⟨rfl, rfl⟩) | (refine wpList_store_row rfl 32 (.tmp 4) (.tmp 194) rfl (w.heap.size) (rTok) rfl rfl 32 rTok hZ (info_rt _ rfl) rfl (rt_cells _ _ _) ?_) | (refine wpList_store_row rfl 86 (.tmp 6) (.tmp 197) rfl (w.heap.size + 1) (eCells i 40) rfl rfl 86 (eCells 0 0) (by exact (setRow_other _ _ _ _ (by omega)).trans hE) (info_e _ rfl) rfl (e_cells _ _) ?_))
    obtain ⟨f1, f2⟩ := rows_two (W := _) (p := w.heap.size) (q := w.heap.size + 1) (by omega) (c1 := rTok) (c2 := eCells i 40) hZ hE
    refine bodyPost_ret (v := .tuple #[.agg (rTok), .int .i64 i, .agg (eCells i 40)]) ?_ rfl ?_
    · exact results_row_tmp_row rfl _ _ (w.heap.size) (w.heap.size + 1) 32 86 (rTok) (eCells i 40) (0, 0) (0, 0) _ _ _ rfl rfl rfl f1 f2 Tryz.underlying32 rfl (info_rt _ rfl) Tryz.underlying86 rfl (info_e _ rfl)
    exact ⟨by rw [HD.out]; rfl, rows_below HB.out (by omega) (by omega) _ _⟩
  · have l3 : decide ((i : Int) + 1 < (s.size : Int)) = false := decide_eq_false (by omega)
    go_enter Tryz.func52, Tryz.ntmps52
    go_wp2_with fail
    generalize hW : World.alloc (World.alloc w _) _ = W
    have hZ : W.heap[w.heap.size]? = some (.cells rTok 32 (0, 0)) := by rw [← hW]; exact (two_alloc w _ _).1
    have hE : W.heap[w.heap.size + 1]? = some (.cells (eCells 0 0) 86 (0, 0)) := by rw [← hW]; exact (two_alloc w _ _).2.1
    have HB : Hid (Below w.heap.size w W) := Lib.hid (by rw [← hW]; exact (two_alloc w _ _).2.2.1)
    have hwz : w.heap.size + 2 ≤ W.heap.size := by rw [← hW, (two_alloc w _ _).2.2.2]; omega
    clear hW
    refine (hsg _).mono ?_
    rintro e w7 ⟨rfl, rfl⟩
    go_wp2_with (first | (go_at_call 76; refine (hLt _).mono ?_; rintro e w9 ⟨rfl, rfl⟩) | (go_at_call 69; refine (hDg _).mono ?_; rintro e w9 ⟨rfl, rfl⟩) | (refine wpList_store_row rfl 32 (.tmp 4) (.tmp 194) rfl (w.heap.size) (rTok) rfl rfl 32 rTok hZ (info_rt _ rfl) rfl (rt_cells _ _ _) ?_) | (refine wpList_store_row rfl 86 (.tmp 6) (.tmp 197) rfl (w.heap.size + 1) (eCells i 40) rfl rfl 86 (eCells 0 0) (by exact (setRow_other _ _ _ _ (by omega)).trans hE) (info_e _ rfl) rfl (e_cells _ _) ?_))
    obtain ⟨f1, f2⟩ := rows_two (W := _) (p := w.heap.size) (q := w.heap.size + 1) (by omega) (c1 := rTok) (c2 := eCells i 40) hZ hE
    refine bodyPost_ret (v := .tuple #[.agg (rTok), .int .i64 i, .agg (eCells i 40)]) ?_ rfl ?_
    · exact results_row_tmp_row rfl _ _ (w.heap.size) (w.heap.size + 1) 32 86 (rTok) (eCells i 40) (0, 0) (0, 0) _ _ _ rfl rfl rfl f1 f2 Tryz.underlying32 rfl (info_rt _ rfl) Tryz.underlying86 rfl (info_e _ rfl)
    exact ⟨by rw [HD.out]; rfl, rows_below HB.out (by omega) (by omega) _ _⟩
set_option maxHeartbeats 4000000 in
set_option maxRecDepth 100000 in
theorem one_none45 (s : ByteArray) (i : Nat) (w : World) (hs : s.size ≤ 1000000) (hi : i < s.size) (h45 : bt s i = 45) (h3 : ¬ cls (bt s (i + 1)).toNat = 3) (R : TokR) (hR : tokN s i = R) :
    Calls Tryz.prog 52 #[.string s, .int .i64 i] w fun e w' => e = .returned (oneV i R) ∧ Below w.heap.size w w' := by
  have HR := Lib.hid hR
  clear hR
  have hb0 := bt_lo s i
  have hb1 := bt_hi s i
  have l2 : decide (i < s.size) = true := decide_eq_true hi
  have wi : IntKind.i64.wrap ((i : Int) + 1) = i + 1 := IntWalk.i64_in _ (by omega)
  have wi2 : IntKind.i64.wrap ((i : Int) + 2) = i + 2 := IntWalk.i64_in _ (by omega)
  have HX : Hid (((s[i]'hi).toNat : Int) = bt s i) := bt_in hi
  have hq : ¬ (bt s i = 39 ∨ bt s i = 34) := by omega
  have h36 : ¬ bt s i = 36 := by omega
  have h4 : ¬ cls (bt s i).toNat = 4 := by rw [h45]; decide
  have h2 : ¬ cls (bt s i).toNat = 2 := by rw [h45]; decide
  have h3' : ¬ cls (bt s i).toNat = 3 := by rw [h45]; decide
  have hste : ¬ (steB (bt s i) = true ∧ bt s (i + 1) = 46) := by rw [h45]; rintro ⟨q, _⟩; exact absurd q (by decide)
  have b39 : (((s[i]'hi).toNat : Int) == 39) = false := by rw [HX.out]; exact beq_eq_false_iff_ne.2 (by omega)
  have b34 : (((s[i]'hi).toNat : Int) == 34) = false := by rw [HX.out]; exact beq_eq_false_iff_ne.2 (by omega)
  have b36 : (((s[i]'hi).toNat : Int) == 36) = false := by rw [HX.out]; exact beq_eq_false_iff_ne.2 h36
  have b45 : (((s[i]'hi).toNat : Int) == 45) = true := by rw [HX.out]; exact beq_iff_eq.2 (by omega)
  have hsg : ∀ w, Calls Tryz.prog 41 #[.int .u8 ((s[i]'hi).toNat : Int)] w fun e w' => e = .returned (.bool false) ∧ w' = w := fun w => by
    have := rIsSign_any _ (bt_lo s i) w
    rw [show (cls (bt s i).toNat == 4) = false by simpa using h4] at this
    rw [HX.out]; exact this
  have hLt : ∀ w, Calls Tryz.prog 76 #[.int .u8 ((s[i]'hi).toNat : Int)] w fun e w' => e = .returned (.bool false) ∧ w' = w := fun w => by
    have := rLetter_any _ (bt_lo s i) w
    rw [show (cls (bt s i).toNat == 2) = false by simpa using h2] at this
    rw [HX.out]; exact this
  have hst : ¬ bt s i = 115 ∧ ¬ bt s i = 116 ∧ ¬ bt s i = 101 := ⟨fun q => h2 (by rw [q]; decide), fun q => h2 (by rw [q]; decide), fun q => h2 (by rw [q]; decide)⟩
  have b115 : (((s[i]'hi).toNat : Int) == 115) = false := by rw [HX.out]; exact beq_eq_false_iff_ne.2 hst.1
  have b116 : (((s[i]'hi).toNat : Int) == 116) = false := by rw [HX.out]; exact beq_eq_false_iff_ne.2 hst.2.1
  have b101 : (((s[i]'hi).toNat : Int) == 101) = false := by rw [HX.out]; exact beq_eq_false_iff_ne.2 hst.2.2
  have hDg : ∀ w, Calls Tryz.prog 69 #[.int .u8 ((s[i]'hi).toNat : Int)] w fun e w' => e = .returned (.bool false) ∧ w' = w := fun w => by
    have := rDigit_any _ (bt_lo s i) w
    rw [show (cls (bt s i).toNat == 3) = false by rw [h45]; rfl] at this
    rw [HX.out]; exact this
  have HD : Hid (R = .bad 40 i) := Lib.hid (tok_none HR.out hq h4 hste h2 (by rintro (q | q); exact h3' q; exact h3 q.2) h36)
  clear hq h4 h36 h2 h3' hst hste hb0 hb1 h45
  by_cases hi1 : i + 1 < s.size
  · have l3 : decide ((i : Int) + 1 < (s.size : Int)) = true := decide_eq_true (by omega)
    have l4 : decide (i + 1 < s.size) = true := decide_eq_true hi1
    have HX1 : Hid (((s[i + 1]'hi1).toNat : Int) = bt s (i + 1)) := bt_in hi1
    have hDn : ∀ w, Calls Tryz.prog 69 #[.int .u8 ((s[i + 1]'hi1).toNat : Int)] w fun e w' => e = .returned (.bool false) ∧ w' = w := fun w => by
      have := rDigit_any _ (bt_lo s (i + 1)) w
      rw [show (cls (bt s (i + 1)).toNat == 3) = false by simpa using h3] at this
      rw [HX1.out]; exact this
    clear h3
    go_enter Tryz.func52, Tryz.ntmps52
    go_wp2_with fail
    generalize hW : World.alloc (World.alloc w _) _ = W
    have hZ : W.heap[w.heap.size]? = some (.cells rTok 32 (0, 0)) := by rw [← hW]; exact (two_alloc w _ _).1
    have hE : W.heap[w.heap.size + 1]? = some (.cells (eCells 0 0) 86 (0, 0)) := by rw [← hW]; exact (two_alloc w _ _).2.1
    have HB : Hid (Below w.heap.size w W) := Lib.hid (by rw [← hW]; exact (two_alloc w _ _).2.2.1)
    have hwz : w.heap.size + 2 ≤ W.heap.size := by rw [← hW, (two_alloc w _ _).2.2.2]; omega
    clear hW
    refine (hsg _).mono ?_
    rintro e w7 ⟨rfl, rfl⟩
    go_wp2_with (first | (go_at_call 76; refine (hLt _).mono ?_; rintro e w9 ⟨rfl, rfl⟩) | (go_at_call_of 69 hi; refine (hDg _).mono ?_; rintro e w9 ⟨rfl, rfl⟩) | (go_at_call 69; refine (hDn _).mono ?_; rintro e w9 ⟨rfl, rfl⟩) | (refine wpList_store_row rfl 32 (.tmp 4) (.tmp 194) rfl (w.heap.size) (rTok) rfl rfl 32 rTok hZ (info_rt _ rfl) rfl (rt_cells _ _ _) ?_) | (refine wpList_store_row rfl 86 (.tmp 6) (.tmp 197) rfl (w.heap.size + 1) (eCells i 40) rfl rfl 86 (eCells 0 0) (by exact (setRow_other _ _ _ _ (by omega)).trans hE) (info_e _ rfl) rfl (e_cells _ _) ?_))
    obtain ⟨f1, f2⟩ := rows_two (W := _) (p := w.heap.size) (q := w.heap.size + 1) (by omega) (c1 := rTok) (c2 := eCells i 40) hZ hE
    refine bodyPost_ret (v := .tuple #[.agg (rTok), .int .i64 i, .agg (eCells i 40)]) ?_ rfl ?_
    · exact results_row_tmp_row rfl _ _ (w.heap.size) (w.heap.size + 1) 32 86 (rTok) (eCells i 40) (0, 0) (0, 0) _ _ _ rfl rfl rfl f1 f2 Tryz.underlying32 rfl (info_rt _ rfl) Tryz.underlying86 rfl (info_e _ rfl)
    exact ⟨by rw [HD.out]; rfl, rows_below HB.out (by omega) (by omega) _ _⟩
  · have l3 : decide ((i : Int) + 1 < (s.size : Int)) = false := decide_eq_false (by omega)
    have hDn : ∀ w, Calls Tryz.prog 69 #[.int .u8 0] w fun e w' => e = .returned (.bool false) ∧ w' = w := fun w => by
      exact rDigit_any 0 (by decide) w
    clear h3
    go_enter Tryz.func52, Tryz.ntmps52
    go_wp2_with fail
    generalize hW : World.alloc (World.alloc w _) _ = W
    have hZ : W.heap[w.heap.size]? = some (.cells rTok 32 (0, 0)) := by rw [← hW]; exact (two_alloc w _ _).1
    have hE : W.heap[w.heap.size + 1]? = some (.cells (eCells 0 0) 86 (0, 0)) := by rw [← hW]; exact (two_alloc w _ _).2.1
    have HB : Hid (Below w.heap.size w W) := Lib.hid (by rw [← hW]; exact (two_alloc w _ _).2.2.1)
    have hwz : w.heap.size + 2 ≤ W.heap.size := by rw [← hW, (two_alloc w _ _).2.2.2]; omega
    clear hW
    refine (hsg _).mono ?_
    rintro e w7 ⟨rfl, rfl⟩
    go_wp2_with (first | (go_at_call 76; refine (hLt _).mono ?_; rintro e w9 ⟨rfl, rfl⟩) | (go_at_call_of 69 hi; refine (hDg _).mono ?_; rintro e w9 ⟨rfl, rfl⟩) | (go_at_call 69; refine (hDn _).mono ?_; rintro e w9 ⟨rfl, rfl⟩) | (refine wpList_store_row rfl 32 (.tmp 4) (.tmp 194) rfl (w.heap.size) (rTok) rfl rfl 32 rTok hZ (info_rt _ rfl) rfl (rt_cells _ _ _) ?_) | (refine wpList_store_row rfl 86 (.tmp 6) (.tmp 197) rfl (w.heap.size + 1) (eCells i 40) rfl rfl 86 (eCells 0 0) (by exact (setRow_other _ _ _ _ (by omega)).trans hE) (info_e _ rfl) rfl (e_cells _ _) ?_))
    obtain ⟨f1, f2⟩ := rows_two (W := _) (p := w.heap.size) (q := w.heap.size + 1) (by omega) (c1 := rTok) (c2 := eCells i 40) hZ hE
    refine bodyPost_ret (v := .tuple #[.agg (rTok), .int .i64 i, .agg (eCells i 40)]) ?_ rfl ?_
    · exact results_row_tmp_row rfl _ _ (w.heap.size) (w.heap.size + 1) 32 86 (rTok) (eCells i 40) (0, 0) (0, 0) _ _ _ rfl rfl rfl f1 f2 Tryz.underlying32 rfl (info_rt _ rfl) Tryz.underlying86 rfl (info_e _ rfl)
    exact ⟨by rw [HD.out]; rfl, rows_below HB.out (by omega) (by omega) _ _⟩
end Go.Proofs.YtmapaagdaojpaaaGreatDoor
namespace Go.Proofs.YtmapaagdaojpaaaGreatDoor
open Go.RowKit

theorem one_any (s : ByteArray) (i : Nat) (w : World) (hs : s.size ≤ 1000000) (hi : i < s.size) :
    Calls Tryz.prog 52 #[.string s, .int .i64 i] w fun e w' => e = .returned (oneV i (tokN s i)) ∧ Below w.heap.size w w' := by
  by_cases h39 : bt s i = 39
  · exact one_q39 s i w hs hi h39 _ rfl
  by_cases h34 : bt s i = 34
  · exact one_q34 s i w hs hi h34 _ rfl
  have hq : ¬ (bt s i = 39 ∨ bt s i = 34) := by omega
  by_cases h4 : cls (bt s i).toNat = 4
  · exact one_sign s i w hs hi hq h4 _ rfl
  by_cases h36 : bt s i = 36
  · exact one_word s i w hs hi h36 _ rfl
  by_cases hv : steB (bt s i) = true ∧ bt s (i + 1) = 46
  · exact one_var s i w hs hi hq h4 hv.1 hv.2 _ rfl
  by_cases h2 : cls (bt s i).toNat = 2
  · exact one_name s i w hs hi hq h2 hv _ rfl
  by_cases h3 : cls (bt s i).toNat = 3
  · exact one_digit s i w hs hi hq h3 _ rfl
  by_cases h45 : bt s i = 45
  · by_cases h3' : cls (bt s (i + 1)).toNat = 3
    · exact one_minus s i w hs hi h45 h3' _ rfl
    · exact one_none45 s i w hs hi h45 h3' _ rfl
  · exact one_none s i w hs hi hq h4 h36 h2 h3 h45 _ rfl
end Go.Proofs.YtmapaagdaojpaaaGreatDoor
