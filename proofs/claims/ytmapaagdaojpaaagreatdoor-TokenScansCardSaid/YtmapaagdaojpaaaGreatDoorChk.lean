/- token.Check and token.Write at names, variables and signs. -/
import Derived.Test.YtmapaagdaojpaaaGreatDoorNames
import Derived.Test.YtmapaagdaojpaaaGreatDoorWx
import Derived.Test.YtmapaagdaojpaaaGreatDoorShelf
import Derived.RegionCalls
import Derived.OwnWalk
namespace Go.Proofs.YtmapaagdaojpaaaGreatDoor
open Go.RowKit

/-- Is it a name, a variable or a sign? -/
def plainOk (kind : Int) (text : ByteArray) : Bool := (kind == 3 && isNameB text) || (kind == 5 && isVarB text) || (kind == 6 && decide (text.size = 1) && cls (bt text 0).toNat == 4)
set_option maxHeartbeats 1000000 in
set_option maxRecDepth 100000 in
theorem check_name (text : ByteArray) (a : Int) (w : World) (h : isNameB text = true) :
    Calls Tryz.prog 11 #[.agg #[.int .i64 3, .string text, .int .i64 a]] w fun e w' => e = .returned (.int .i64 0) ∧ Below w.heap.size w w' := by
  go_enter Tryz.func11, Tryz.ntmps11
  go_wp2_with fail
  refine (IsName_any text _).mono ?_
  rintro e w1 ⟨rfl, hb⟩
  rw [h]
  go_wp2_with fail
  go_ret
  exact ⟨rfl, ((Below.refl _ w).alloc (Nat.le_refl _) _).trans (hb.mono (by simp))⟩
set_option maxHeartbeats 1000000 in
set_option maxRecDepth 100000 in
theorem check_var (text : ByteArray) (a : Int) (w : World) (h : isVarB text = true) :
    Calls Tryz.prog 11 #[.agg #[.int .i64 5, .string text, .int .i64 a]] w fun e w' => e = .returned (.int .i64 0) ∧ Below w.heap.size w w' := by
  go_enter Tryz.func11, Tryz.ntmps11
  go_wp2_with fail
  refine (isVariable_any text _).mono ?_
  rintro e w1 ⟨rfl, hb⟩
  rw [h]
  go_wp2_with fail
  go_ret
  exact ⟨rfl, ((Below.refl _ w).alloc (Nat.le_refl _) _).trans (hb.mono (by simp))⟩
theorem clsArr_at (x : Nat) (h : x < 256) : clsArr[x]? = some (.int .i64 (cls x)) := by
  have := scanArr_get ⟨#[]⟩ 0 (by omega)
  have : ∀ i : Fin 256, (match clsArr[i.val]? with | some (.int .i64 v) => decide (v = cls i.val) | _ => false) = true := by decide +kernel
  have h2 := this ⟨x, h⟩
  dsimp only at h2
  split at h2
  · rename_i v hv
    rw [hv]; simp at h2; rw [h2]
  · cases h2
theorem cls_index (x : Nat) (h : x < 256) (v : Int) (hv : clsArr[x]? = some (.int .i64 v)) (w : World) : (Instr.index 65 (.agg clsArr) (.int .u8 x)).run Tryz.prog w = .ok (.int .i64 v) w := by
  have hu := run_underlying (P := Tryz.prog) (w := w) Tryz.underlying65
  have hs : (sizeOf 3).run Tryz.prog w = .ok 1 w := by kernel_rfl
  simp [Instr.index, hu, hs, asIntOf, Sem.run_bind, part, hv, go_sem]
  intro q; omega
set_option maxHeartbeats 1000000 in
set_option maxRecDepth 100000 in
theorem check_sign (text : ByteArray) (a : Int) (w : World) (h1 : text.size = 1) (h : cls (bt text 0).toNat = 4) :
    Calls Tryz.prog 11 #[.agg #[.int .i64 6, .string text, .int .i64 a]] w fun e w' => e = .returned (.int .i64 0) ∧ Below w.heap.size w w' := by
  have hlt : 0 < text.size := by omega
  have hx1 : (text[0]'hlt).toNat < 256 := (text[0]).toNat_lt
  have hcl := clsArr_at (text[0]'hlt).toNat hx1
  have hc4 : cls (text[0]'hlt).toNat = 4 := by rw [← h, ← bt_in hlt]; rfl
  rw [hc4] at hcl
  have hix := cls_index _ hx1 _ hcl
  have hs1 : (text.size : Int) = 1 := by omega
  clear h hc4
  go_enter Tryz.func11, Tryz.ntmps11
  go_wp2_with fail
  have hc1 : (w.alloc (.cells #[.int .i64 6, .string text, .int .i64 a] 27)).cell? ⟨w.heap.size, 1, none⟩ = some (.string text) := by
    have hT := heap_alloc_new w (.cells #[.int .i64 6, .string text, .int .i64 a] 27)
    generalize World.alloc _ _ = U at hT ⊢
    simp [World.cell?, hT]
  have hsz : (w.alloc (.cells #[.int .i64 6, .string text, .int .i64 a] 27)).heap.size = w.heap.size + 1 := by simp
  have hbW : Below w.heap.size w (w.alloc (.cells #[.int .i64 6, .string text, .int .i64 a] 27)) := below_alloc1 _ _
  generalize w.alloc (.cells #[.int .i64 6, .string text, .int .i64 a] 27) = W0 at hc1 hsz hbW ⊢
  go_region_with ((go_at_call 36; go_loud (refine (classes_any _).mono ?_); go_loud (rintro e w1 ⟨rfl, hb⟩); go_loud (have c2 : w1.cell? ⟨w.heap.size, 1, none⟩ = some (.string text) := (hb.cell (p := ⟨w.heap.size, 1, none⟩) (by show w.heap.size < W0.heap.size; omega)).trans hc1); go_loud (have hb3 : Below w.heap.size w w1 := hbW.drew.trans (hb.mono (by show w.heap.size ≤ W0.heap.size; omega))); go_loud (clear hb)))
  all_goals go_wp2
  all_goals go_ret
  all_goals exact ⟨rfl, hb3⟩
theorem Check_plain (kind : Int) (text : ByteArray) (a : Int) (w : World) (h : plainOk kind text = true) :
    Calls Tryz.prog 11 #[.agg #[.int .i64 kind, .string text, .int .i64 a]] w fun e w' => e = .returned (.int .i64 0) ∧ Below w.heap.size w w' := by
  unfold plainOk at h
  simp only [Bool.or_eq_true, Bool.and_eq_true, beq_iff_eq, decide_eq_true_eq] at h
  rcases h with (⟨rfl, h⟩ | ⟨rfl, h⟩) | ⟨⟨rfl, h⟩, h2⟩
  · exact check_name text a w h
  · exact check_var text a w h
  · exact check_sign text a w h h2
theorem plain_kind {kind : Int} {text : ByteArray} (h : plainOk kind text = true) : ¬ kind = 1 ∧ ¬ kind = 2 := by
  unfold plainOk at h
  simp only [Bool.or_eq_true, Bool.and_eq_true, beq_iff_eq, decide_eq_true_eq] at h
  rcases h with (⟨rfl, h⟩ | ⟨rfl, h⟩) | ⟨⟨rfl, h⟩, h2⟩ <;> decide
set_option maxHeartbeats 1000000 in
set_option maxRecDepth 100000 in
theorem Write_plain (kind : Int) (text : ByteArray) (a : Int) (w : World) (h : plainOk kind text = true) :
    Calls Tryz.prog 9 #[.agg #[.int .i64 kind, .string text, .int .i64 a]] w fun e w' => e = .returned (.tuple #[.string text, .int .i64 0]) ∧ Below w.heap.size w w' := by
  have hC := fun w => Check_plain kind text a w h
  obtain ⟨k1, k2⟩ := plain_kind h
  have q1 : (kind == 1) = false := by simpa using k1
  have q2 : (kind == 2) = false := by simpa using k2
  clear h k1 k2
  go_enter Tryz.func9, Tryz.ntmps9
  go_wp2_with fail
  have hT := heap_alloc_new w (.cells #[.int .i64 kind, .string text, .int .i64 a] 27)
  have hbW : Below w.heap.size w (w.alloc (.cells #[.int .i64 kind, .string text, .int .i64 a] 27)) := below_alloc1 _ _
  refine (hC _).mono ?_
  rintro e w1 ⟨rfl, hb⟩
  have hT1 := (hb.block w.heap.size (by simp)).trans hT
  have c0 : w1.cell? ⟨w.heap.size, 0, none⟩ = some (.int .i64 kind) := by simp [World.cell?, hT1]
  have c1 : w1.cell? ⟨w.heap.size, 1, none⟩ = some (.string text) := by simp [World.cell?, hT1]
  have hb3 : Below w.heap.size w w1 := hbW.trans (hb.mono (by simp))
  clear hT hbW hb hT1 hC
  go_wp2
  go_ret2
  exact ⟨rfl, hb3⟩
def apartB (k : Int) : Bool := [3, 4, 5, 7].contains k
set_option maxHeartbeats 1000000 in
set_option maxRecDepth 100000 in
theorem apart_any (kind : Int) (text : ByteArray) (a : Int) (w : World) :
    Calls Tryz.prog 42 #[.agg #[.int .i64 kind, .string text, .int .i64 a]] w fun e w' => e = .returned (.bool (apartB kind)) ∧ Below w.heap.size w w' := by
  go_enter Tryz.func42, Tryz.ntmps42
  go_wp2_with fail
  have hn := heap_alloc_new (w.alloc (.cells #[.int .i64 kind, .string text, .int .i64 a] 27)) (.cells #[.int .i64 3, .int .i64 4, .int .i64 5, .int .i64 7] 3)
  rw [World.size_alloc] at hn
  have hbW : Below w.heap.size w ((w.alloc (.cells #[.int .i64 kind, .string text, .int .i64 a] 27)).alloc (.cells #[.int .i64 3, .int .i64 4, .int .i64 5, .int .i64 7] 3)) := (below_alloc1 _ _).alloc (by simp) _
  refine (Tryz.slices_Contains_int (w.heap.size + 1) 0 4 4 [3, 4, 5, 7] kind _ (by simp) (by decide) (fun j hj => ?_)).mono ?_
  · generalize World.alloc _ _ = U at hn ⊢
    match j, hj with
    | 0, _ => simp [World.cell?, hn]
    | 1, _ => simp [World.cell?, hn]
    | 2, _ => simp [World.cell?, hn]
    | 3, _ => simp [World.cell?, hn]
    | j + 4, hj => simp at hj; omega
  rintro e w1 ⟨rfl, rfl⟩
  go_wp2_with fail
  go_ret
  refine ⟨?_, hbW⟩
  have e : (decide (kind = 3) || (decide (kind = 4) || (decide (kind = 5) || decide (kind = 7)))) = apartB kind := by
    unfold apartB
    rw [Bool.eq_iff_iff]
    simp
  rw [← e]; rfl
end Go.Proofs.YtmapaagdaojpaaaGreatDoor
