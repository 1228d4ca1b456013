/- The reference's variables and numbers. -/
import Derived.Test.YtmapaagdaojpaaaGreatDoorRb
namespace Go.Proofs.YtmapaagdaojpaaaGreatDoor
open Go.RowKit

theorem bt_ext (s : ByteArray) (i j : Nat) : bt (s.extract i s.size) j = bt s (i + j) := by
  by_cases h : i + j < s.size
  · have hz : j < (s.extract i s.size).size := by rw [ByteArray.size_extract]; omega
    rw [← bt_in h, ← bt_in hz, ByteArray.getElem_extract]
  · rw [bt_out (s := s) (by omega), bt_out (by rw [ByteArray.size_extract]; omega)]
theorem ext_size (s : ByteArray) (i : Nat) : (s.extract i s.size).size = s.size - i := by rw [ByteArray.size_extract]; omega
theorem run_ext (s : ByteArray) (p : Int → Bool) (i : Nat) (hi : i ≤ s.size) : decide (runTo (s.extract i s.size) p 0 = (s.extract i s.size).size) = decide (runTo s p i = s.size) := by
  rw [decide_eq_decide, runTo_all _ p _ 0 rfl (Nat.zero_le _), runTo_all s p _ i rfl hi, ext_size]
  constructor
  · intro h j h1 h2
    have := h (j - i) (Nat.zero_le _) (by omega)
    rw [bt_ext, show i + (j - i) = j by omega] at this
    exact this
  · intro h j h1 h2
    rw [bt_ext]; exact h (i + j) (by omega) (by omega)
def digP (c : Int) : Bool := cls c.toNat == 3
/-- A number without its sign. -/
def isNumL (d : ByteArray) : Bool := decide (d.size ≠ 0) && decide (d.size ≤ 500) && decide (runTo d digP 0 = d.size) && (bt d 0 != 48)
def numT (s : ByteArray) : ByteArray := if bt s 0 = 45 then s.extract 1 s.size else s
def isNumR (s : ByteArray) : Bool := s.toList == [48] || isNumL (numT s)
set_option maxHeartbeats 800000 in
set_option maxRecDepth 100000 in
theorem rIsVar_any (s : ByteArray) (w : World) (hs : s.size ≤ 1000000) :
    Calls Tryz.prog 70 #[.string s] w fun e w' => e = .returned (.bool (isVarR s)) ∧ w' = w := by
  go_enter Tryz.func70, Tryz.ntmps70
  go_wp2
  go_loopw [3] (fun i wr => ∃ k : Nat, k ≤ s.size ∧ i = .int .i64 k ∧ wr = w ∧ Hid (∀ j, j < k → inner none8 (bt s j) = true)) (fun i _ => s.size - (intOf i).toNat)
  case atStart => exact ⟨0, Nat.zero_le _, rfl, rfl, Lib.hid fun j hj => by omega⟩
  case round =>
    obtain ⟨k, hk, rfl, rfl, HK⟩ := hrel
    by_cases hkl : k < s.size
    · have l1 : decide ((k : Int) < (s.size : Int)) = true := decide_eq_true (by omega)
      have l2 : decide (k < s.size) = true := decide_eq_true hkl
      have wk : IntKind.i64.wrap ((k : Int) + 1) = k + 1 := IntWalk.i64_in _ (by omega)
      have HX := Lib.hid (bt_in hkl)
      have hin := inner_none (bt s k) (bt_lo s k) (bt_hi s k)
      have hL : ∀ w, Calls Tryz.prog 76 #[.int .u8 ((s[k]'hkl).toNat : Int)] w fun e w' => e = .returned (.bool (cls (bt s k).toNat == 2)) ∧ w' = w := fun w => by
        rw [HX.out]; exact rLetter_any _ (bt_lo s k) w
      have hD : ∀ w, Calls Tryz.prog 69 #[.int .u8 ((s[k]'hkl).toNat : Int)] w fun e w' => e = .returned (.bool (cls (bt s k).toNat == 3)) ∧ w' = w := fun w => by
        rw [HX.out]; exact rDigit_any _ (bt_lo s k) w
      generalize (cls (bt s k).toNat == 2) = L at hin hL
      generalize (cls (bt s k).toNat == 3) = D at hin hD
      by_cases hor : (L || D) = true
      · have HI : Hid (inner none8 (bt s k) = true) := Lib.hid (hin.trans hor)
        clear hin
        have hLD : L = true ∨ (L = false ∧ D = true) := by cases L <;> cases D <;> simp_all
        clear hor
        rcases hLD with rfl | ⟨rfl, rfl⟩
        · go_wp2_with (first | (go_at_call 76; refine (hL _).mono ?_; rintro e w' ⟨rfl, rfl⟩) | (go_at_call 69; refine (hD _).mono ?_; rintro e w' ⟨rfl, rfl⟩))
          go_roundw
          case rel => exact ⟨k + 1, by omega, by go_num, by trivial, Lib.hid fun j hj => by
            by_cases e : j = k
            · rw [e]; exact HI.out
            · exact HK.out j (by omega)⟩
          case measure => simp [intOf]; omega
        · go_wp2_with (first | (go_at_call 76; refine (hL _).mono ?_; rintro e w' ⟨rfl, rfl⟩) | (go_at_call 69; refine (hD _).mono ?_; rintro e w' ⟨rfl, rfl⟩))
          go_roundw
          case rel => exact ⟨k + 1, by omega, by go_num, by trivial, Lib.hid fun j hj => by
            by_cases e : j = k
            · rw [e]; exact HI.out
            · exact HK.out j (by omega)⟩
          case measure => simp [intOf]; omega
      · obtain ⟨rfl, rfl⟩ : L = false ∧ D = false := by cases L <;> cases D <;> simp_all
        have HF : Hid (isVarR s = false) := Lib.hid (by unfold isVarR; rw [run_no (Nat.zero_le k) hkl hin]; simp)
        clear hor hin
        go_wp2_with (first | (go_at_call 76; refine (hL _).mono ?_; rintro e w' ⟨rfl, rfl⟩) | (go_at_call 69; refine (hD _).mono ?_; rintro e w' ⟨rfl, rfl⟩))
        go_ret
        exact ⟨by rw [HF.out]; rfl, rfl⟩
    · have l1 : decide ((k : Int) < (s.size : Int)) = false := decide_eq_false (by omega)
      obtain rfl : k = s.size := by omega
      have HW : Hid (isVarR s = (decide (s.size ≠ 0) && decide (s.size ≤ 40))) := Lib.hid (by unfold isVarR; rw [run_yes (Nat.zero_le _) (fun j h1 h2 => HK.out j (by omega))]; simp)
      by_cases h0 : s.size = 0
      · obtain rfl : s = ByteArray.empty := by simpa using h0
        go_wp2
        go_ret
        exact ⟨by rw [HW.out]; rfl, rfl⟩
      · have hl : ¬ s.toList = [] := toList_ne h0
        have hl2 : s.toList.isEmpty = false := by simpa using hl
        by_cases h1 : s.size ≤ 40
        · have g1 : decide ((s.size : Int) ≤ 40) = true := decide_eq_true (by omega)
          go_wp2
          go_ret
          exact ⟨by rw [HW.out]; simp [h0, h1], rfl⟩
        · have g1 : decide ((s.size : Int) ≤ 40) = false := decide_eq_false (by omega)
          go_wp2
          go_ret
          exact ⟨by rw [HW.out]; simp [h1], rfl⟩
set_option maxHeartbeats 1600000 in
set_option maxRecDepth 100000 in
theorem rIsNumber_any (s : ByteArray) (w : World) (hs : s.size ≤ 1000000) :
    Calls Tryz.prog 39 #[.string s] w fun e w' => e = .returned (.bool (isNumR s)) ∧ w' = w := by
  by_cases h48 : s.toList = [48]
  · have HR : Hid (isNumR s = true) := Lib.hid (by unfold isNumR; rw [h48]; rfl)
    go_enter Tryz.func39, Tryz.ntmps39
    go_wp2
    go_ret
    exact ⟨by rw [HR.out]; rfl, rfl⟩
  · have HR0 : Hid (isNumR s = isNumL (numT s)) := Lib.hid (by unfold isNumR; rw [show (s.toList == [48]) = false by simpa using h48]; rfl)
    have b48 : (s.toList == [48]) = false := by simpa using h48
    by_cases h45 : bt s 0 = 45
    · have hlt : 0 < s.size := by
        rcases Nat.eq_zero_or_pos s.size with e | e
        · rw [bt_out (by omega)] at h45; cases h45
        · exact e
      have hl : ¬ s.toList = [] := toList_ne (by omega)
      have hl2 : s.toList.isEmpty = false := by simpa using hl
      have l0 : decide (0 < s.size) = true := decide_eq_true hlt
      have HB : ((s[0]'hlt).toNat : Int) = 45 := (bt_in hlt).trans h45
      have HR1 : numT s = s.extract 1 s.size := by unfold numT; rw [if_pos h45]
      have hsz := ext_size s 1
      have c1 : (1 : Int) ≤ s.size := by omega
      have HR : Hid (isNumR s = isNumL (s.extract 1 s.size)) := Lib.hid (by rw [HR0.out, HR1])
      clear h45 HR1
      go_enter Tryz.func39, Tryz.ntmps39
      go_wp2
      generalize s.extract 1 s.size = d at HR hsz
      go_wp2
      go_loopw [3] (fun i wr => ∃ k : Nat, k ≤ d.size ∧ i = .int .i64 k ∧ wr = w ∧ Hid (∀ j, j < k → digP (bt d j) = true)) (fun i _ => d.size - (intOf i).toNat)
      case atStart => exact ⟨0, Nat.zero_le _, rfl, rfl, Lib.hid fun j hj => by omega⟩
      case round =>
        obtain ⟨k, hk, rfl, rfl, HK⟩ := hrel
        by_cases hkl : k < d.size
        · have l1 : decide ((k : Int) < (d.size : Int)) = true := decide_eq_true (by omega)
          have l2 : decide (k < d.size) = true := decide_eq_true hkl
          have wk : IntKind.i64.wrap ((k : Int) + 1) = k + 1 := IntWalk.i64_in _ (by omega)
          have HX := Lib.hid (bt_in hkl)
          by_cases hi : digP (bt d k) = true
          · have hD : ∀ w, Calls Tryz.prog 69 #[.int .u8 ((d[k]'hkl).toNat : Int)] w fun e w' => e = .returned (.bool true) ∧ w' = w := fun w => by
              rw [HX.out, ← hi]; exact rDigit_any _ (bt_lo d k) w
            have HI := Lib.hid hi
            clear hi
            go_wp2_with (go_at_call 69; refine (hD _).mono ?_; rintro e w' ⟨rfl, rfl⟩)
            go_roundw
            case rel => exact ⟨k + 1, by omega, by go_num, by trivial, Lib.hid fun j hj => by
              by_cases e : j = k
              · rw [e]; exact HI.out
              · exact HK.out j (by omega)⟩
            case measure => simp [intOf]; omega
          · have hi2 : digP (bt d k) = false := by simpa using hi
            have hD : ∀ w, Calls Tryz.prog 69 #[.int .u8 ((d[k]'hkl).toNat : Int)] w fun e w' => e = .returned (.bool false) ∧ w' = w := fun w => by
              rw [HX.out, ← hi2]; exact rDigit_any _ (bt_lo d k) w
            have HF : Hid (isNumL d = false) := Lib.hid (by unfold isNumL; rw [run_no (Nat.zero_le k) hkl hi2]; simp)
            clear hi hi2
            go_wp2_with (go_at_call 69; refine (hD _).mono ?_; rintro e w' ⟨rfl, rfl⟩)
            go_ret
            exact ⟨by rw [HR.out, HF.out]; rfl, rfl⟩
        · have l1 : decide ((k : Int) < (d.size : Int)) = false := decide_eq_false (by omega)
          obtain rfl : k = d.size := by omega
          have HW : Hid (isNumL d = (decide (d.size ≠ 0) && decide (d.size ≤ 500) && (bt d 0 != 48))) := Lib.hid (by unfold isNumL; rw [run_yes (Nat.zero_le _) (fun j h1 h2 => HK.out j (by omega)), Bool.and_true])
          by_cases h0 : d.size = 0
          · obtain rfl : d = ByteArray.empty := by simpa using h0
            go_wp2
            go_ret
            exact ⟨by rw [HR.out, HW.out]; rfl, rfl⟩
          · have hl : ¬ d.toList = [] := toList_ne h0
            have hl2 : d.toList.isEmpty = false := by simpa using hl
            have hlt : 0 < d.size := by omega
            have l0 : decide (0 < d.size) = true := decide_eq_true hlt
            by_cases h1 : d.size ≤ 500
            · have g1 : decide ((d.size : Int) ≤ 500) = true := decide_eq_true (by omega)
              have HB := Lib.hid (bt_in hlt)
              have HQ : Hid (isNumL d = (((d[0]'hlt).toNat : Int) != 48)) := Lib.hid (by rw [HW.out, decide_eq_true h0, decide_eq_true h1, HB.out]; rfl)
              by_cases h48 : ((d[0]'hlt).toNat : Int) = 48
              · go_wp2
                go_ret
                exact ⟨by rw [HR.out, HQ.out, h48]; rfl, rfl⟩
              · have n48 : (((d[0]'hlt).toNat : Int) != 48) = true := by rw [bne_iff_ne]; exact h48
                have n48' : (((d[0]'hlt).toNat : Int) == 48) = false := by rw [beq_eq_false_iff_ne]; exact h48
                go_wp2
                go_ret
                exact ⟨by rw [HR.out, HQ.out, n48]; rfl, rfl⟩
            · have g1 : decide ((d.size : Int) ≤ 500) = false := decide_eq_false (by omega)
              go_wp2
              go_ret
              exact ⟨by rw [HR.out, HW.out]; simp [h1], rfl⟩
    · have HR1 : numT s = s := by unfold numT; rw [if_neg h45]
      have HR : Hid (isNumR s = isNumL s) := Lib.hid (by rw [HR0.out, HR1])
      clear HR1 HR0
      obtain ⟨d, hd⟩ : ∃ d, d = s := ⟨s, rfl⟩
      subst hd
      by_cases h0 : d.size = 0
      · obtain rfl : d = ByteArray.empty := by simpa using h0
        have HF : Hid (isNumL ByteArray.empty = false) := Lib.hid (by unfold isNumL; rfl)
        go_enter Tryz.func39, Tryz.ntmps39
        go_wp2
        go_loopw [3] (fun i wr => i = .int .i64 0 ∧ wr = w) (fun i _ => 0)
        case atStart => exact ⟨rfl, rfl⟩
        case round =>
          obtain ⟨rfl, rfl⟩ := hrel
          go_wp2
          go_ret
          exact ⟨by rw [HR.out, HF.out]; rfl, rfl⟩
      have hl : ¬ d.toList = [] := toList_ne h0
      have hl2 : d.toList.isEmpty = false := by simpa using hl
      have hlt : 0 < d.size := by omega
      have l0 : decide (0 < d.size) = true := decide_eq_true hlt
      have n45 : (((d[0]'hlt).toNat : Int) == 45) = false := by rw [beq_eq_false_iff_ne, bt_in hlt]; exact h45
      clear h45
      go_enter Tryz.func39, Tryz.ntmps39
      go_wp2
      go_loopw [3] (fun i wr => ∃ k : Nat, k ≤ d.size ∧ i = .int .i64 k ∧ wr = w ∧ Hid (∀ j, j < k → digP (bt d j) = true)) (fun i _ => d.size - (intOf i).toNat)
      case atStart => exact ⟨0, Nat.zero_le _, rfl, rfl, Lib.hid fun j hj => by omega⟩
      case round =>
        obtain ⟨k, hk, rfl, rfl, HK⟩ := hrel
        by_cases hkl : k < d.size
        · have l1 : decide ((k : Int) < (d.size : Int)) = true := decide_eq_true (by omega)
          have l2 : decide (k < d.size) = true := decide_eq_true hkl
          have wk : IntKind.i64.wrap ((k : Int) + 1) = k + 1 := IntWalk.i64_in _ (by omega)
          have HX := Lib.hid (bt_in hkl)
          by_cases hi : digP (bt d k) = true
          · have hD : ∀ w, Calls Tryz.prog 69 #[.int .u8 ((d[k]'hkl).toNat : Int)] w fun e w' => e = .returned (.bool true) ∧ w' = w := fun w => by
              rw [HX.out, ← hi]; exact rDigit_any _ (bt_lo d k) w
            have HI := Lib.hid hi
            clear hi
            go_wp2_with (go_at_call 69; refine (hD _).mono ?_; rintro e w' ⟨rfl, rfl⟩)
            go_roundw
            case rel => exact ⟨k + 1, by omega, by go_num, by trivial, Lib.hid fun j hj => by
              by_cases e : j = k
              · rw [e]; exact HI.out
              · exact HK.out j (by omega)⟩
            case measure => simp [intOf]; omega
          · have hi2 : digP (bt d k) = false := by simpa using hi
            have hD : ∀ w, Calls Tryz.prog 69 #[.int .u8 ((d[k]'hkl).toNat : Int)] w fun e w' => e = .returned (.bool false) ∧ w' = w := fun w => by
              rw [HX.out, ← hi2]; exact rDigit_any _ (bt_lo d k) w
            have HF : Hid (isNumL d = false) := Lib.hid (by unfold isNumL; rw [run_no (Nat.zero_le k) hkl hi2]; simp)
            clear hi hi2
            go_wp2_with (go_at_call 69; refine (hD _).mono ?_; rintro e w' ⟨rfl, rfl⟩)
            go_ret
            exact ⟨by rw [HR.out, HF.out]; rfl, rfl⟩
        · have l1 : decide ((k : Int) < (d.size : Int)) = false := decide_eq_false (by omega)
          obtain rfl : k = d.size := by omega
          have HW : Hid (isNumL d = (decide (d.size ≠ 0) && decide (d.size ≤ 500) && (bt d 0 != 48))) := Lib.hid (by unfold isNumL; rw [run_yes (Nat.zero_le _) (fun j h1 h2 => HK.out j (by omega)), Bool.and_true])
          by_cases h0 : d.size = 0
          · obtain rfl : d = ByteArray.empty := by simpa using h0
            go_wp2
            go_ret
            exact ⟨by rw [HR.out, HW.out]; rfl, rfl⟩
          · have hl : ¬ d.toList = [] := toList_ne h0
            have hl2 : d.toList.isEmpty = false := by simpa using hl
            have hlt : 0 < d.size := by omega
            have l0 : decide (0 < d.size) = true := decide_eq_true hlt
            by_cases h1 : d.size ≤ 500
            · have g1 : decide ((d.size : Int) ≤ 500) = true := decide_eq_true (by omega)
              have HB := Lib.hid (bt_in hlt)
              have HQ : Hid (isNumL d = (((d[0]'hlt).toNat : Int) != 48)) := Lib.hid (by rw [HW.out, decide_eq_true h0, decide_eq_true h1, HB.out]; rfl)
              by_cases h48 : ((d[0]'hlt).toNat : Int) = 48
              · go_wp2
                go_ret
                exact ⟨by rw [HR.out, HQ.out, h48]; rfl, rfl⟩
              · have n48 : (((d[0]'hlt).toNat : Int) != 48) = true := by rw [bne_iff_ne]; exact h48
                have n48' : (((d[0]'hlt).toNat : Int) == 48) = false := by rw [beq_eq_false_iff_ne]; exact h48
                go_wp2
                go_ret
                exact ⟨by rw [HR.out, HQ.out, n48]; rfl, rfl⟩
            · have g1 : decide ((d.size : Int) ≤ 500) = false := decide_eq_false (by omega)
              go_wp2
              go_ret
              exact ⟨by rw [HR.out, HW.out]; simp [h1], rfl⟩
set_option maxHeartbeats 800000 in
set_option maxRecDepth 100000 in
theorem rIsSign_any (c : Int) (h0 : 0 ≤ c) (w : World) :
    Calls Tryz.prog 41 #[.int .u8 c] w fun e w' => e = .returned (.bool (cls c.toNat == 4)) ∧ w' = w := by
  have hs : (cls c.toNat == 4) = (c == 40 || c == 41 || c == 60 || c == 62 || c == 123 || c == 125 || c == 61 || c == 44 || c == 58 || c == 59) := by
    rw [Bool.eq_iff_iff]
    simp only [beq_iff_eq, Bool.or_eq_true, or_assoc]
    exact cls_sig c h0
  rw [hs]
  go_enter Tryz.func41, Tryz.ntmps41
  go_wp2
  all_goals go_ret
  all_goals
    refine ⟨?_, rfl⟩
    simp_all
/-- Is it the name of a variable, by the reference? -/
def isVarV (s : ByteArray) : Bool := decide (3 ≤ s.size) && (bt s 1 == 46) && isVarR (s.extract 2 s.size) && steB (bt s 0)
theorem isVarV_eq (s : ByteArray) : isVarV s = isVarB s := by
  by_cases h3 : 3 ≤ s.size
  · unfold isVarV isVarB isVarR
    rw [run_ext s _ 2 (by omega), ext_size]
    have e1 : decide (s.size - 2 ≠ 0) = true := decide_eq_true (by omega)
    have e2 : decide (s.size - 2 ≤ 40) = decide (s.size ≤ 42) := by rw [decide_eq_decide]; omega
    rw [e1, e2, decide_eq_true h3]
    cases decide (s.size ≤ 42) <;> cases steB (bt s 0) <;> cases (bt s 1 == 46) <;> cases decide (runTo s (inner none8) 2 = s.size) <;> rfl
  · unfold isVarV isVarB
    rw [decide_eq_false h3]; rfl
theorem ret_pair {x : Value} {a b : Bool} (h : a = b) : Ending.returned (.tuple #[x, .bool a]) = .returned (.tuple #[x, .bool b]) := by rw [h]
theorem info_term : (Tryz.prog.info? 69).map (·.size) = some 3 := by kernel_rfl
set_option maxHeartbeats 1600000 in
set_option maxRecDepth 100000 in
theorem rVariable_any (s : ByteArray) (w : World) (hs : s.size ≤ 1000000) :
    Calls Tryz.prog 40 #[.string s] w fun e w' => (∃ v, e = .returned (.tuple #[v, .bool (isVarV s)])) ∧ Below w.heap.size w w' := by
  by_cases h3 : 3 ≤ s.size
  · have g3 : decide ((s.size : Int) < 3) = false := decide_eq_false (by omega)
    have hlt : 0 < s.size := by omega
    have hlt1 : 1 < s.size := by omega
    have l0 : decide (0 < s.size) = true := decide_eq_true hlt
    have l1 : decide (1 < s.size) = true := decide_eq_true hlt1
    have c2 : (2 : Int) ≤ s.size := by omega
    have hV := fun w => rIsVar_any (s.extract 2 s.size) w (by rw [ext_size]; omega)
    by_cases h46 : ((s[1]'hlt1).toNat : Int) = 46
    · have HR : Hid (isVarV s = (isVarR (s.extract 2 s.size) && steB ((s[0]'hlt).toNat : Int))) := Lib.hid (by unfold isVarV; rw [decide_eq_true h3, ← bt_in hlt1, h46, ← bt_in hlt]; rfl)
      cases hv : isVarR (s.extract 2 s.size) with
      | false =>
        rw [hv] at hV HR
        clear hv
        go_enter Tryz.func40, Tryz.ntmps40
        go_wp2_with (go_at_call 70; refine (hV _).mono ?_; rintro e w' ⟨rfl, rfl⟩)
        refine bodyPost_ret (results_row_tmp rfl _ _ w.heap.size 69 _ (0, 0) _ _ rfl rfl (heap_alloc_new w _) Tryz.underlying69 rfl info_term) rfl ⟨⟨_, ret_pair HR.out.symm⟩, below_alloc1 w _⟩
      | true =>
        rw [hv] at hV HR
        clear hv
        by_cases e115 : ((s[0]'hlt).toNat : Int) = 115
        · have HQ : Hid (isVarV s = true) := Lib.hid (by rw [HR.out, e115]; rfl)
          go_enter Tryz.func40, Tryz.ntmps40
          go_wp2_with (go_at_call 70; refine (hV _).mono ?_; rintro e w' ⟨rfl, rfl⟩)
          refine bodyPost_ret (results_row_tmp rfl _ _ w.heap.size 69 _ (0, 0) _ _ rfl rfl (heap_alloc_new w _) Tryz.underlying69 rfl info_term) rfl ⟨⟨_, ret_pair HQ.out.symm⟩, below_alloc1 w _⟩
        · by_cases e116 : ((s[0]'hlt).toNat : Int) = 116
          · have HQ : Hid (isVarV s = true) := Lib.hid (by rw [HR.out, e116]; rfl)
            go_enter Tryz.func40, Tryz.ntmps40
            go_wp2_with (go_at_call 70; refine (hV _).mono ?_; rintro e w' ⟨rfl, rfl⟩)
            refine bodyPost_ret (results_row_tmp rfl _ _ w.heap.size 69 _ (0, 0) _ _ rfl rfl (heap_alloc_new w _) Tryz.underlying69 rfl info_term) rfl ⟨⟨_, ret_pair HQ.out.symm⟩, below_alloc1 w _⟩
          · by_cases e101 : ((s[0]'hlt).toNat : Int) = 101
            · have HQ : Hid (isVarV s = true) := Lib.hid (by rw [HR.out, e101]; rfl)
              go_enter Tryz.func40, Tryz.ntmps40
              go_wp2_with (go_at_call 70; refine (hV _).mono ?_; rintro e w' ⟨rfl, rfl⟩)
              refine bodyPost_ret (results_row_tmp rfl _ _ w.heap.size 69 _ (0, 0) _ _ rfl rfl (heap_alloc_new w _) Tryz.underlying69 rfl info_term) rfl ⟨⟨_, ret_pair HQ.out.symm⟩, below_alloc1 w _⟩
            · have b1 : (((s[0]'hlt).toNat : Int) == 115) = false := by simpa using e115
              have b2 : (((s[0]'hlt).toNat : Int) == 116) = false := by simpa using e116
              have b3 : (((s[0]'hlt).toNat : Int) == 101) = false := by simpa using e101
              have HQ : Hid (isVarV s = false) := Lib.hid (by rw [HR.out]; unfold steB; rw [b1, b2, b3]; rfl)
              go_enter Tryz.func40, Tryz.ntmps40
              go_wp2_with (go_at_call 70; refine (hV _).mono ?_; rintro e w' ⟨rfl, rfl⟩)
              refine bodyPost_ret (results_row_tmp rfl _ _ w.heap.size 69 _ (0, 0) _ _ rfl rfl (heap_alloc_new w _) Tryz.underlying69 rfl info_term) rfl ⟨⟨_, ret_pair HQ.out.symm⟩, below_alloc1 w _⟩
    · have HR : Hid (isVarV s = false) := Lib.hid (by unfold isVarV; rw [← bt_in hlt1, show (((s[1]'hlt1).toNat : Int) == 46) = false by simpa using h46]; simp)
      have b46 : (((s[1]'hlt1).toNat : Int) != 46) = true := by simpa using h46
      go_enter Tryz.func40, Tryz.ntmps40
      go_wp2_with (go_at_call 70; refine (hV _).mono ?_; rintro e w' ⟨rfl, rfl⟩)
      refine bodyPost_ret (results_row_tmp rfl _ _ w.heap.size 69 _ (0, 0) _ _ rfl rfl (heap_alloc_new w _) Tryz.underlying69 rfl info_term) rfl ⟨⟨_, ret_pair HR.out.symm⟩, below_alloc1 w _⟩
  · have g3 : decide ((s.size : Int) < 3) = true := decide_eq_true (by omega)
    have HR : Hid (isVarV s = false) := Lib.hid (by unfold isVarV; rw [decide_eq_false h3]; rfl)
    go_enter Tryz.func40, Tryz.ntmps40
    go_wp2
    refine bodyPost_ret (results_row_tmp rfl _ _ w.heap.size 69 _ (0, 0) _ _ rfl rfl (heap_alloc_new w _) Tryz.underlying69 rfl info_term) rfl ⟨⟨_, ret_pair HR.out.symm⟩, below_alloc1 w _⟩
end Go.Proofs.YtmapaagdaojpaaaGreatDoor
