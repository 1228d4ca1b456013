/- token.IsName, isVariable, isKeyword: what they tell of any text. -/
import Derived.Test.YtmapaagdaojpaaaGreatDoorRun
import Derived.Test.YtmapaagdaojpaaaGreatDoorCls
namespace Go.Proofs.YtmapaagdaojpaaaGreatDoor
open Go.RowKit

def zero259 : Array Value := #[.string ⟨#[]⟩, .int .i64 0] ++ zero256 ++ #[.slice none 0 0]
theorem zero259_run (w : World) : (zeroValue 93).run Tryz.prog w = .ok (.agg zero259) w := by kernel_rfl
def scanArr (s : ByteArray) : Array Value := ((List.range 259).map (scanCell s 0 (.slice none 0 0))).toArray
theorem scanArr_size (s : ByteArray) : (scanArr s).size = 259 := by simp [scanArr]
theorem zero259_size : zero259.size = 259 := by simp [zero259, zero256_size]
theorem scanArr_get (s : ByteArray) (i : Nat) (h : i < 259) : (scanArr s)[i]? = some (scanCell s 0 (.slice none 0 0) i) := by simp [scanArr, h]
theorem scan_built (s : ByteArray) : Tryz.prog.built 93 [(0, .string s), (2, .agg clsArr)] = some (scanArr s) := by kernel_rfl
theorem scan_info (s : ByteArray) : (Tryz.prog.info? 93).map (·.size) = some (scanArr s).size := by rw [scanArr_size]; kernel_rfl
theorem scan_cells (s : ByteArray) : (scanArr s).all (·.oneCell') = true := by
  simp only [scanArr, List.all_toArray, List.all_map, List.all_eq_true, Function.comp]
  intro i _
  unfold scanCell
  repeat' split
  all_goals rfl
theorem scan_new (w : World) (s : ByteArray) : ScanRow w.heap.size s 0 (.slice none 0 0) (w.alloc (.cells (scanArr s) 93)) := by
  have h := World.rowIs_alloc w (scanArr s) 93 (scanCell s 0 (.slice none 0 0)) (fun i hi => scanArr_get s i (by rwa [scanArr_size] at hi))
  rwa [scanArr_size] at h

set_option maxHeartbeats 400000 in
theorem isKeyword_any (s : ByteArray) (w : World) :
    Calls Tryz.prog 37 #[.string s] w fun e w' => e = .returned (.bool (isKeyB s)) ∧ w' = w := by
  go_enter Tryz.func37, Tryz.ntmps37
  go_wp2
  all_goals go_ret
  all_goals
    refine ⟨?_, rfl⟩
    unfold isKeyB
    first
    | rfl
    | (have hp : s.toList = [36, 69, 78, 84, 82, 89] := by assumption
       simp [hp]; done)

theorem toList_ne {s : ByteArray} (h : s.size ≠ 0) : s.toList ≠ [] := by
  intro e
  apply h
  have := congrArg List.length e
  simpa [Lib.toList_data] using this

theorem int_beq (m n : Nat) : ((m : Int) == n) = decide (m = n) := by rw [Bool.eq_iff_iff]; simp; omega
theorem isName_ends {s : ByteArray} {x : Nat} {v : Int} {b : Bool} (h0 : ¬ s.toList = []) (h1 : s.size ≤ 60) (hb : (x : Int) = bt s 0) (hv : cls x = v) (h : b = ((v == 2) && decide (runTo s (inner dashes) 1 = s.size))) :
    Ending.returned (.bool b) = .returned (.bool (isNameB s)) := by
  have h2 : s.size ≠ 0 := by intro e; apply h0; obtain rfl : s = ByteArray.empty := by simpa using e
                             simp [Lib.toList_data]
  subst hv h
  simp [isNameB, h2, h1, ← hb]

set_option maxHeartbeats 400000 in
set_option maxRecDepth 100000 in
theorem IsName_any (s : ByteArray) (w : World) :
    Calls Tryz.prog 26 #[.string s] w fun e w' => e = .returned (.bool (isNameB s)) ∧ Below w.heap.size w w' := by
  by_cases h0 : s.size = 0
  · obtain rfl : s = ByteArray.empty := by simpa using h0
    have HR : Hid (isNameB ByteArray.empty = false) := by simp [isNameB, Hid]
    go_enter Tryz.func26, Tryz.ntmps26
    go_wp2
    go_ret
    exact ⟨by rw [HR.out]; rfl, Below.refl _ _⟩
  · have hl : ¬ s.toList = [] := toList_ne h0
    have hl2 : s.toList.isEmpty = false := by simpa using hl
    by_cases h1 : s.size ≤ 60
    · have hlt : 0 < s.size := by omega
      have hx1 : (s[0]'hlt).toNat < 256 := (s[0]).toNat_lt
      have HB : Hid (((s[0]'hlt).toNat : Int) = bt s 0) := bt_in hlt
      have hc : (scanArr s)[2 + (s[0]'hlt).toNat]? = some (.int .i64 (cls (s[0]'hlt).toNat)) := by
        rw [scanArr_get s _ (by omega)]; unfold scanCell; rw [if_neg (by omega), if_neg (by omega), if_pos (by omega)]; congr 3; omega
      generalize hv : cls (s[0]'hlt).toNat = v at hc
      have HV := Lib.hid hv
      clear hv
      clear h0
      go_enter Tryz.func26, Tryz.ntmps26
      go_wp2_with fail
      refine (classes_any _).mono ?_
      rintro e w1 ⟨rfl, hb1⟩
      go_wp2_with (refine wpList_new_var 93 #[(0, .tmp 11), (2, .tmp 12)] 13 3 (by exact ⟨rfl, rfl, rfl⟩) (by exact ⟨rfl, rfl, rfl⟩) (by exact ⟨rfl, rfl, rfl⟩) (by decide) (by simp) (by simp) [(0, .string s), (2, .agg clsArr)] (by simp [Act.eval]) (scanArr s) (scan_built s) zero259 zero259_run (scan_info s) (by rw [zero259_size, scanArr_size]) (scan_cells s) ?_)
      · have hv : v = 2 := by assumption
        have hr := run_any w1.heap.size s dashes 0 1 (.slice none 0 0) _ (by omega) (by omega) (scan_new w1 s)
        generalize hm : runTo s (inner dashes) 1 = m at hr
        have HM := Lib.hid hm
        clear hm
        refine hr.mono ?_
        rintro e w2 ⟨rfl, nq, rfl⟩
        clear hr
        go_wp2
        go_ret
        exact ⟨isName_ends hl h1 HB.out HV.out (by rw [HM.out, ← int_beq]; simp [hv]), below_drewN (hb1.alloc hb1.size _) _⟩
      · have hv : ¬ v = 2 := by assumption
        go_ret
        exact ⟨isName_ends hl h1 HB.out HV.out (by simp [hv]), hb1.alloc hb1.size _⟩
    · have hgt : 60 < s.size := by omega
      have HR : Hid (isNameB s = false) := by simp [isNameB, Hid, h1]
      go_enter Tryz.func26, Tryz.ntmps26
      go_wp2
      go_ret
      exact ⟨by rw [HR.out]; rfl, Below.refl _ _⟩

theorem ix_ste (c : Nat) (h : c < 256) : (0 ≤ Lib.indexByte [115, 116, 101] (c : Int).toNat.toUInt8 ↔ steB (c : Int) = true) := by
  have hc : ∀ d : Nat, d < 256 → ((c : Int).toNat.toUInt8 = d.toUInt8 ↔ c = d) := by
    intro d hd
    constructor
    · intro e
      have := congrArg UInt8.toNat e
      simpa [Nat.mod_eq_of_lt h, Nat.mod_eq_of_lt hd] using this
    · rintro rfl; rfl
  have h1 := hc 115 (by omega)
  have h2 := hc 116 (by omega)
  have h3 := hc 101 (by omega)
  generalize (c : Int).toNat.toUInt8 = u at *
  have e1 : (115 : UInt8) = Nat.toUInt8 115 := rfl
  have e2 : (116 : UInt8) = Nat.toUInt8 116 := rfl
  have e3 : (101 : UInt8) = Nat.toUInt8 101 := rfl
  rw [← e1] at h1; rw [← e2] at h2; rw [← e3] at h3
  by_cases q1 : u = 115
  · subst q1; obtain rfl := h1.1 rfl; decide
  by_cases q2 : u = 116
  · subst q2; obtain rfl := h2.1 rfl; decide
  by_cases q3 : u = 101
  · subst q3; obtain rfl := h3.1 rfl; decide
  have n1 : ¬ c = 115 := fun e => q1 (h1.2 e)
  have n2 : ¬ c = 116 := fun e => q2 (h2.2 e)
  have n3 : ¬ c = 101 := fun e => q3 (h3.2 e)
  have : Lib.indexByte [115, 116, 101] u = -1 := by
    simp [Lib.indexByte, Ne.symm q1, Ne.symm q2, Ne.symm q3]
  rw [this]
  unfold steB
  simp
  omega

theorem isVar_ends {s : ByteArray} {x y : Nat} {ix : Int} {b : Bool} (h0 : 3 ≤ s.size) (h1 : s.size ≤ 42) (hb : (x : Int) = bt s 0) (hb1 : (y : Int) = bt s 1) (hi : 0 ≤ ix ↔ steB (x : Int) = true)
    (h : b = (decide (0 ≤ ix) && ((y : Int) == 46) && decide (runTo s (inner none8) 2 = s.size))) : Ending.returned (.bool b) = .returned (.bool (isVarB s)) := by
  subst h
  have : decide (0 ≤ ix) = steB (x : Int) := by rw [Bool.eq_iff_iff, decide_eq_true_eq]; exact hi
  simp [isVarB, h0, h1, ← hb, ← hb1, this]

set_option maxHeartbeats 400000 in
set_option maxRecDepth 100000 in
theorem isVariable_any (s : ByteArray) (w : World) :
    Calls Tryz.prog 35 #[.string s] w fun e w' => e = .returned (.bool (isVarB s)) ∧ Below w.heap.size w w' := by
  by_cases h0 : 3 ≤ s.size
  · by_cases h1 : s.size ≤ 42
    · have hlt : 0 < s.size := by omega
      have hlt1 : 1 < s.size := by omega
      have hx1 : (s[0]'hlt).toNat < 256 := (s[0]).toNat_lt
      have HB : Hid (((s[0]'hlt).toNat : Int) = bt s 0) := bt_in hlt
      have HB1 : Hid (((s[1]'hlt1).toNat : Int) = bt s 1) := bt_in hlt1
      have hI := fun w => Tryz.strings_IndexByte ⟨#[115, 116, 101]⟩ ((s[0]'hlt).toNat : Int) w
      have HS := Lib.hid (ix_ste (s[0]'hlt).toNat hx1)
      generalize hix : Lib.indexByte [115, 116, 101] ((s[0]'hlt).toNat : Int).toNat.toUInt8 = ix at HS
      have hI2 : ∀ w, Calls Tryz.prog 68 #[.string ⟨#[115, 116, 101]⟩, .int .u8 (s[0]'hlt).toNat] w fun e w' => e = .returned (.int .i64 ix) ∧ w' = w := by
        intro w; have := hI w; rwa [show (⟨#[115, 116, 101]⟩ : ByteArray).data.toList = [115, 116, 101] from rfl, hix] at this
      clear hix hI
      by_cases hn : ((s[1]'hlt1).toNat : Int) = 46
      · have e : (((s[1]'hlt1).toNat : Int) == 46) = true := beq_iff_eq.2 hn
        have e2 : (((s[1]'hlt1).toNat : Int) != 46) = false := by simpa using hn
        have E := Lib.hid e
        clear hn e
        go_enter Tryz.func35, Tryz.ntmps35
        go_wp2_with fail
        refine (hI2 _).mono ?_
        rintro e w1 ⟨rfl, rfl⟩
        clear hI2
        go_wp2_with fail
        · have hi : 0 ≤ ix := by omega
          refine (classes_any _).mono ?_
          rintro e w2 ⟨rfl, hb1⟩
          go_wp2_with (refine wpList_new_var 93 #[(0, .tmp 23), (2, .tmp 24)] 25 3 (by exact ⟨rfl, rfl, rfl⟩) (by exact ⟨rfl, rfl, rfl⟩) (by exact ⟨rfl, rfl, rfl⟩) (by decide) (by simp) (by simp) [(0, .string s), (2, .agg clsArr)] (by simp [Act.eval]) (scanArr s) (scan_built s) zero259 zero259_run (scan_info s) (by rw [zero259_size, scanArr_size]) (scan_cells s) ?_)
          have hr := run_any w2.heap.size s none8 0 2 (.slice none 0 0) _ (by omega) (by omega) (scan_new w2 s)
          generalize hm : runTo s (inner none8) 2 = m at hr
          have HM := Lib.hid hm
          clear hm
          refine hr.mono ?_
          rintro e w3 ⟨rfl, nq, rfl⟩
          clear hr
          go_wp2
          go_ret
          refine ⟨isVar_ends h0 h1 HB.out HB1.out HS.out ?_, below_drewN (hb1.alloc hb1.size _) _⟩
          rw [E.out, HM.out, ← int_beq]; simp [hi]
        · have hi : ¬ 0 ≤ ix := by omega
          go_ret
          refine ⟨isVar_ends h0 h1 HB.out HB1.out HS.out ?_, Below.refl _ _⟩
          simp [hi]
      · have e : (((s[1]'hlt1).toNat : Int) == 46) = false := beq_eq_false_iff_ne.2 hn
        have e2 : (((s[1]'hlt1).toNat : Int) != 46) = true := by simpa using hn
        have E := Lib.hid e
        clear hn e
        go_enter Tryz.func35, Tryz.ntmps35
        go_wp2_with fail
        refine (hI2 _).mono ?_
        rintro e w1 ⟨rfl, rfl⟩
        clear hI2
        go_wp2_with fail
        all_goals
          go_ret
          refine ⟨isVar_ends h0 h1 HB.out HB1.out HS.out ?_, Below.refl _ _⟩
          rw [E.out]; simp
    · have hgt : 42 < s.size := by omega
      have HR : Hid (isVarB s = false) := by simp [isVarB, Hid, h1]
      go_enter Tryz.func35, Tryz.ntmps35
      go_wp2
      go_ret
      exact ⟨by rw [HR.out]; rfl, Below.refl _ _⟩
  · have hgt : s.size < 3 := by omega
    have HR : Hid (isVarB s = false) := by simp [isVarB, Hid, h0]
    go_enter Tryz.func35, Tryz.ntmps35
    go_wp2
    go_ret
    exact ⟨by rw [HR.out]; rfl, Below.refl _ _⟩
end Go.Proofs.YtmapaagdaojpaaaGreatDoor
