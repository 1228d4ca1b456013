/- token.classes returns the table of the classes of bytes. -/
import Derived.Test.YtmapaagdaojpaaaGreatDoorProg
import Derived.Test.YtmapaagdaojpaaaGreatDoorWx
import Derived.Lib.SmallJoins
import Derived.Test.YtmapaagdaojpaaaGreatDoorPx
namespace Go.Proofs.YtmapaagdaojpaaaGreatDoor
open Go.RowKit

def zero256 : Array Value := Array.replicate 256 (.int .i64 0)
theorem zero256_run (w : World) : (zeroValue 65).run Tryz.prog w = .ok (.agg zero256) w := by kernel_rfl

def clsArr : Array Value := ((List.range 256).map fun c => Value.int .i64 (cls c)).toArray

def whites : List Int := [32, 9, 10, 13]
def signs : List Int := [40, 41, 60, 62, 123, 125, 61, 44, 58, 59]
/-- Behind k white bytes. -/
def cw (k j : Nat) : Int := if (j : Int) ∈ whites.take k then 1 else 0
def cl (k j : Nat) : Int := if 97 ≤ j ∧ j < 97 + k ∨ 65 ≤ j ∧ j < 65 + k then 2 else cw 4 j
def cd (k j : Nat) : Int := if 48 ≤ j ∧ j < 48 + k then 3 else cl 26 j
def cg (k j : Nat) : Int := if (j : Int) ∈ signs.take k then 4 else cd 10 j

theorem cw_step (k : Nat) (hk : k < 4) (i : Nat) (hi : (i : Int) = whites.getD k 0) (j : Nat) : (if j = i then 1 else cw k j) = cw (k + 1) j := by
  have : k = 0 ∨ k = 1 ∨ k = 2 ∨ k = 3 := by omega
  rcases this with rfl | rfl | rfl | rfl <;> simp [whites] at hi <;> obtain rfl : i = _ := by { exact Int.ofNat.inj hi } <;> simp [whites, cw] <;> omega
theorem cl_step (k : Nat) (hk : k < 26) (j : Nat) : (if j = 65 + k then 2 else if j = 97 + k then 2 else cl k j) = cl (k + 1) j := by
  unfold cl
  repeat' split
  all_goals first | rfl | omega
theorem cd_step (k : Nat) (hk : k < 10) (j : Nat) : (if j = 48 + k then 3 else cd k j) = cd (k + 1) j := by
  unfold cd
  repeat' split
  all_goals first | rfl | omega
theorem cg_step (k : Nat) (hk : k < 10) (i : Nat) (hi : (i : Int) = signs.getD k 0) (j : Nat) : (if j = i then 4 else cg k j) = cg (k + 1) j := by
  have : k = 0 ∨ k = 1 ∨ k = 2 ∨ k = 3 ∨ k = 4 ∨ k = 5 ∨ k = 6 ∨ k = 7 ∨ k = 8 ∨ k = 9 := by omega
  rcases this with rfl | rfl | rfl | rfl | rfl | rfl | rfl | rfl | rfl | rfl <;> simp [signs] at hi <;> obtain rfl : i = _ := by { exact Int.ofNat.inj hi } <;> simp [signs, cg] <;> (repeat' split) <;> first | rfl | omega
theorem cg_cls (j : Nat) : cg 10 j = cls j := by
  unfold cg cls cd cl cw
  simp [signs, whites]
  repeat' split
  all_goals first | rfl | omega
theorem zero256_size : zero256.size = 256 := by simp [zero256]
theorem zero256_get (i : Nat) (h : i < 256) : zero256[i]? = some (.int .i64 0) := by simp [zero256, h]

/-- The worlds of the loops of 'classes': block n the result, block n + 1 the table. -/
structure ClsW (w : World) (f : Nat → Int) (wr : World) : Prop where
  res : wr.rowIs w.heap.size 65 256 (fun _ => .int .i64 0)
  out : wr.rowIs (w.heap.size + 1) 65 256 (fun j => .int .i64 (f j))
  below : Below w.heap.size w wr
theorem ClsW.cell {w wr : World} {f : Nat → Int} (h : ClsW w f wr) (i : Nat) (hi : i < 256) : wr.cell? ⟨w.heap.size + 1, i, none⟩ = some (.int .i64 (f i)) := h.out.cell hi
theorem ClsW.set {w wr : World} {f g : Nat → Int} (h : ClsW w f wr) (i : Nat) (v : Int) (hg : ∀ j, j < 256 → (if j = i then v else f j) = g j) : ClsW w g (wr.setCell ⟨w.heap.size + 1, i, none⟩ (.int .i64 v)) :=
  ⟨h.res.setOther (by simp) _, (h.out.set i _).congr (fun j hj => by rw [← hg j hj]; split <;> rfl), h.below.setCell (by simp) _⟩
theorem ClsW.start (w : World) : ClsW w (cw 0) ((w.alloc (.cells zero256 65)).alloc (.cells zero256 65)) := by
  have h1 := World.rowIs_alloc w zero256 65 (fun _ => .int .i64 0) (fun i hi => zero256_get i (by rwa [zero256_size] at hi))
  have h2 := World.rowIs_alloc (w.alloc (.cells zero256 65)) zero256 65 (fun j => .int .i64 (cw 0 j)) (fun i hi => by rw [zero256_size] at hi; rw [zero256_get i hi]; simp [cw])
  rw [zero256_size] at h1 h2
  exact ⟨h1.alloc _, by simpa using h2, ((Below.refl _ _).alloc (Nat.le_refl _) _).alloc (by simp) _⟩
theorem ClsW.alloc {w wr : World} {f : Nat → Int} (h : ClsW w f wr) (o : Obj) : ClsW w f (wr.alloc o) := ⟨h.res.alloc o, h.out.alloc o, h.below.alloc h.below.size o⟩

theorem ClsW.congr {w wr : World} {f g : Nat → Int} (h : ClsW w f wr) (hg : ∀ j, j < 256 → f j = g j) : ClsW w g wr :=
  ⟨h.res, h.out.congr (fun j hj => by rw [hg j hj]), h.below⟩
def CellsAre (m : Nat) (l : List Int) (wr : World) : Prop := ∀ j, j < l.length → wr.cell? ⟨m, j, none⟩ = some (.int .u8 (l.getD j 0))
theorem CellsAre.set {m n : Nat} {wr : World} {l : List Int} (h : CellsAre m l wr) (hne : n ≠ m) (i : Nat) (v : Value) : CellsAre m l (wr.setCell ⟨n, i, none⟩ v) :=
  fun j hj => (World.cell?_setCell_other _ _ _ _ (fun e => hne (congrArg Addr.block e))).trans (h j hj)
theorem whites_cell (j : Nat) (hj : j < whites.length) : #[Value.int .u8 32, .int .u8 9, .int .u8 10, .int .u8 13][j]? = some (.int .u8 (whites.getD j 0)) := by
  have : j = 0 ∨ j = 1 ∨ j = 2 ∨ j = 3 := by simp [whites] at hj; omega
  rcases this with rfl | rfl | rfl | rfl <;> rfl

theorem signs_cell (j : Nat) (hj : j < signs.length) : #[Value.int .u8 40, .int .u8 41, .int .u8 60, .int .u8 62, .int .u8 123, .int .u8 125, .int .u8 61, .int .u8 44, .int .u8 58, .int .u8 59][j]? = some (.int .u8 (signs.getD j 0)) := by
  have : j = 0 ∨ j = 1 ∨ j = 2 ∨ j = 3 ∨ j = 4 ∨ j = 5 ∨ j = 6 ∨ j = 7 ∨ j = 8 ∨ j = 9 := by simp [signs] at hj; omega
  rcases this with rfl | rfl | rfl | rfl | rfl | rfl | rfl | rfl | rfl | rfl <;> rfl
theorem clsArr_size : clsArr.size = 256 := by simp [clsArr]
theorem clsArr_get (i : Nat) (h : i < 256) : clsArr[i]? = some (.int .i64 (cls i)) := by simp [clsArr, h]
theorem ClsW.table {w wr : World} (h : ClsW w (cg 10) wr) : wr.heap[w.heap.size + 1]? = some (.cells clsArr 65 (0, 0)) := by
  obtain ⟨c, hb, hn, hc⟩ := h.out
  rw [hb]
  congr 2
  apply Array.ext_getElem?
  intro i
  by_cases hi : i < 256
  · rw [hc i hi, clsArr_get i hi, ← cg_cls]
  · rw [Array.getElem?_eq_none (by omega), Array.getElem?_eq_none (by rw [clsArr_size]; omega)]
theorem ClsW.slot {w wr : World} {f : Nat → Int} (h : ClsW w f wr) : ∃ c, wr.heap[w.heap.size]? = some (.cells c 65 (0, 0)) ∧ c.size = clsArr.size := by
  obtain ⟨c, hb, hn, _⟩ := h.res
  exact ⟨c, hb, by rw [hn, clsArr_size]⟩
theorem cls_info : (Tryz.prog.info? 65).map (·.size) = some clsArr.size := by rw [clsArr_size]; kernel_rfl
theorem cls_cells : clsArr.all (·.oneCell') = true := by simp [clsArr, Value.oneCell']
theorem below_setRow {B : Nat} {a w : World} (h : Below B a w) (g : Nat) (hg : B ≤ g) (cs : Array Value) : Below B a (w.setRow g cs) :=
  h.trans ⟨rfl, rfl, rfl, by simp, fun k hk => setRow_other _ _ _ _ (by omega)⟩

set_option maxHeartbeats 400000 in
set_option maxRecDepth 100000 in
theorem classes_any (w : World) :
    Calls Tryz.prog 36 #[] w fun e w' => e = .returned (.agg clsArr) ∧ Below w.heap.size w w' := by
  have kc := fun (w : World) (C : Array Value) (n c g : Nat) (hg : g = w.heap.size) => Joins.run_convert_bytes_const_at (P := Tryz.prog) w 37 5 C n c g hg Tryz.underlying37 Tryz.underlying5
  go_enter Tryz.func36, Tryz.ntmps36
  go_wp2_with (refine wpList_alloc_z rfl 65 rfl zero256 zero256_run ?_)
  go_loopw [3, 11] (fun _ i wr => ∃ k : Nat, k ≤ 4 ∧ i = .int .i64 k ∧ ClsW w (cw k) wr ∧ CellsAre (w.heap.size + 1 + 1) whites wr) (fun _ i _ => 4 - (intOf i).toNat)
  case atStart =>
    refine ⟨0, by omega, rfl, (ClsW.start w).alloc _, fun j hj => ?_⟩
    rw [Joins.cell_alloc_mark_at _ _ _ _ _ _ (by simp)]
    exact whites_cell j hj
  case round =>
    obtain ⟨k, hk, rfl, hC, hB⟩ := hrel
    by_cases hlt : k < 4
    · have hb := hB k (by simpa [whites] using hlt)
      obtain ⟨x, hx0, hx1, hxe, hxh⟩ : ∃ x : Nat, x < 256 ∧ x < 127 ∧ (x : Int) = whites.getD k 0 ∧ Hid ((x : Int) = whites.getD k 0) := by
        have : k = 0 ∨ k = 1 ∨ k = 2 ∨ k = 3 := by omega
        rcases this with rfl | rfl | rfl | rfl <;> exact ⟨_, by decide, by decide, rfl, rfl⟩
      rw [← hxe] at hb
      have hc := hC.cell x hx0
      have hf := hC.out.frozen x
      clear hxe
      go_wp2
      go_roundw
      case rel => exact ⟨k + 1, by omega, by go_num, hC.set x 1 (fun j _ => cw_step k hlt x hxh.out j), hB.set (by simp) _ _⟩
      case measure => simp [intOf]; omega
    · obtain rfl : k = 4 := by omega
      clear hB
      go_wp2
      go_loopw [4] (fun i wr => ∃ k : Nat, k ≤ 26 ∧ i = .int .i32 ((97 : Int) + k) ∧ ClsW w (cl k) wr) (fun i _ => 123 - (intOf i).toNat)
      case atStart => exact ⟨0, by omega, rfl, hC.congr (fun j _ => by simp [cl]; omega)⟩
      case round =>
        clear hC
        obtain ⟨k, hk, rfl, hC⟩ := hrel
        by_cases hlt : k < 26
        · have hc := hC.cell (97 + k) (by omega)
          have hf := hC.out.frozen (97 + k)
          have hc2 := hC.cell (65 + k) (by omega)
          have hf2 := hC.out.frozen (65 + k)
          have e1 : ((97 : Int) + k).toNat = 97 + k := by omega
          have e2 : ((97 : Int) + k - 97 + 65).toNat = 65 + k := by omega
          have e3 : ((97 : Int) + k - 97 + 65) = 65 + k := by omega
          go_wp2
          go_roundw
          case rel => exact ⟨k + 1, by omega, by go_num, (hC.set (97 + k) 2 (fun j _ => rfl)).set (65 + k) 2 (fun j _ => cl_step k hlt j)⟩
          case measure => simp [intOf]; omega
        · obtain rfl : k = 26 := by omega
          go_wp2
          go_loopw [5] (fun i wr => ∃ k : Nat, k ≤ 10 ∧ i = .int .i32 ((48 : Int) + k) ∧ ClsW w (cd k) wr) (fun i _ => 58 - (intOf i).toNat)
          case atStart => exact ⟨0, by omega, rfl, hC.congr (fun j _ => by simp [cd]; omega)⟩
          case round =>
            clear hC
            obtain ⟨k, hk, rfl, hC⟩ := hrel
            by_cases hlt : k < 10
            · have hc := hC.cell (48 + k) (by omega)
              have hf := hC.out.frozen (48 + k)
              have e1 : ((48 : Int) + k).toNat = 48 + k := by omega
              go_wp2
              go_roundw
              case rel => exact ⟨k + 1, by omega, by go_num, hC.set (48 + k) 3 (fun j _ => cd_step k hlt j)⟩
              case measure => simp [intOf]; omega
            · obtain rfl : k = 10 := by omega
              go_wp2
              obtain ⟨wo, rfl⟩ : ∃ wo : World, wo = wr := ⟨_, rfl⟩
              go_loopw [7, 37] (fun _ i wr => ∃ k : Nat, k ≤ 10 ∧ i = .int .i64 k ∧ ClsW w (cg k) wr ∧ CellsAre wo.heap.size signs wr) (fun _ i _ => 10 - (intOf i).toNat)
              case atStart =>
                refine ⟨0, by omega, rfl, (hC.congr (fun j _ => by simp [cg])).alloc _, fun j hj => ?_⟩
                rw [Joins.cell_alloc_mark_at _ _ _ _ _ _ rfl]
                exact signs_cell j hj
              case round =>
                have hsz : w.heap.size + 1 < wo.heap.size := hC.out.lt
                clear hC
                obtain ⟨k, hk, rfl, hC, hB⟩ := hrel
                by_cases hlt : k < 10
                · have hb := hB k (by simpa [signs] using hlt)
                  obtain ⟨x, hx0, hx1, hxe, hxh⟩ : ∃ x : Nat, x < 256 ∧ x < 127 ∧ (x : Int) = signs.getD k 0 ∧ Hid ((x : Int) = signs.getD k 0) := by
                    have : k = 0 ∨ k = 1 ∨ k = 2 ∨ k = 3 ∨ k = 4 ∨ k = 5 ∨ k = 6 ∨ k = 7 ∨ k = 8 ∨ k = 9 := by omega
                    rcases this with rfl | rfl | rfl | rfl | rfl | rfl | rfl | rfl | rfl | rfl <;> exact ⟨_, by decide, by decide, rfl, rfl⟩
                  rw [← hxe] at hb
                  have hc := hC.cell x hx0
                  have hf := hC.out.frozen x
                  clear hxe
                  go_wp2
                  go_roundw
                  case rel => exact ⟨k + 1, by omega, by go_num, hC.set x 4 (fun j _ => cg_step k hlt x hxh.out j), hB.set (by omega) _ _⟩
                  case measure => simp [intOf]; omega
                · obtain rfl : k = 10 := by omega
                  have hT := hC.table
                  obtain ⟨c0, hR, hRs⟩ := hC.slot
                  clear hB
                  go_wp2_with (first | (refine wpList_load_row rfl 65 (.tmp 1) rfl (w.heap.size + 1) rfl 65 clsArr (0, 0) _ hT Tryz.underlying65 rfl cls_info ?_) | (refine wpList_store_row rfl 65 (.tmp 0) (.tmp 44) rfl w.heap.size clsArr rfl rfl 65 c0 hR cls_info hRs cls_cells ?_))
                  refine bodyPost_ret (v := .agg clsArr) ?_ rfl ⟨rfl, below_setRow hC.below _ (Nat.le_refl _) _⟩
                  exact results_cell_row rfl _ _ w.heap.size 65 clsArr (0, 0) _ rfl (setRow_heap _ _ c0 _ _ _ hR) Tryz.underlying65 rfl cls_info
end Go.Proofs.YtmapaagdaojpaaaGreatDoor
