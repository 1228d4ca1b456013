/- The reference's texts between marks. -/
import Derived.Test.YtmapaagdaojpaaaGreatDoorQx
namespace Go.Proofs.YtmapaagdaojpaaaGreatDoor
open Go.RowKit

theorem hexS_at : ∀ n : Fin 16, ((⟨#[48, 49, 50, 51, 52, 53, 54, 55, 56, 57, 97, 98, 99, 100, 101, 102]⟩ : ByteArray).extract n.val (n.val + 1)).data.toList = [hexd n.val] := by decide +kernel
theorem rhex_any (n : Nat) (h : n < 16) (w : World) :
    Calls Tryz.prog 67 #[.int .u8 n] w fun e w' => e = .returned (.string ⟨#[hexd n]⟩) ∧ w' = w := by
  have w1 : IntKind.u8.wrap ((n : Int) + 1) = n + 1 := by
    have : (n : Int) + 1 ≤ 255 := by omega
    exact IntWalk.u8_in _ (by omega)
  have c1 : (0 : Int) ≤ n := by omega
  have c2 : (n : Int) ≤ n + 1 := by omega
  have c3 : (n : Int) + 1 ≤ 16 := by omega
  have HS := Lib.hid (hexS_at ⟨n, h⟩)
  go_enter Tryz.func67, Tryz.ntmps67
  go_wp2
  go_ret
  exact ⟨congrArg (fun x => Ending.returned (.string x)) (data_inj (b := ⟨#[hexd n]⟩) HS.out), rfl⟩
set_option maxHeartbeats 1600000 in
set_option maxRecDepth 100000 in
theorem rquoted_any (s : ByteArray) (w : World) (hs : s.size ≤ 1000000) (hp : ∀ j, j < s.size → wordP (bt s j) = true) :
    Calls Tryz.prog 34 #[.string s] w fun e w' => e = .returned (.string (quotedB 34 s)) ∧ w' = w := by
  have HP := Lib.hid hp
  clear hp
  go_enter Tryz.func34, Tryz.ntmps34
  go_wp2
  go_loopw [4, 3] (fun i o wr => ∃ (k : Nat) (t : ByteArray), k ≤ s.size ∧ i = .int .i64 k ∧ o = .string t ∧ wr = w ∧ Hid (QOut 34 s k t)) (fun i _ _ => s.size - (intOf i).toNat)
  case atStart => exact ⟨0, _, Nat.zero_le _, rfl, rfl, rfl, Lib.hid (by unfold QOut; simp)⟩
  case round =>
    obtain ⟨k, t, hk, rfl, rfl, rfl, HQ⟩ := hrel
    have htl := HQ.out.len
    by_cases hkl : k < s.size
    · have l1 : decide ((k : Int) < (s.size : Int)) = true := decide_eq_true (by omega)
      have l2 : decide (k < s.size) = true := decide_eq_true hkl
      have wk : IntKind.i64.wrap ((k : Int) + 1) = k + 1 := IntWalk.i64_in _ (by omega)
      have c1 : (0 : Int) ≤ k := by omega
      have c2 : (k : Int) ≤ k + 1 := by omega
      have c3 : (k : Int) + 1 ≤ s.size := by omega
      have hbu : bu s k = s[k]'hkl := by unfold bu; rw [dif_pos hkl]
      have HX1 := Lib.hid (ext_one hkl)
      have HPR := HP.out k hkl
      rw [← bt_in hkl] at HPR
      unfold wordP at HPR
      simp only [Bool.and_eq_true, decide_eq_true_eq] at HPR
      by_cases h34 : ((s[k]'hkl).toNat : Int) = 34
      · have HE : Hid (escB 34 (bu s k) = [92, bu s k]) := Lib.hid (by
          have e : bu s k = 34 := by rw [hbu]; exact UInt8.toNat_inj.1 (by show _ = 34; omega)
          rw [e]; rfl)
        clear hbu HPR
        go_wp2
        all_goals first
          | (exfalso; omega; done)
          | skip
        go_roundw
        case rel => exact ⟨k + 1, _, by omega, by go_num, rfl, by trivial, by
          rw [ByteArray.append_assoc]
          exact HQ.out.step hkl (by rw [HE.out, ByteArray.data_append, Array.toList_append, HX1.out]; rfl)⟩
        case measure => simp [intOf]; omega
      · have b34 : (((s[k]'hkl).toNat : Int) == 34) = false := by simpa using h34
        by_cases h92 : ((s[k]'hkl).toNat : Int) = 92
        · have HE : Hid (escB 34 (bu s k) = [92, bu s k]) := Lib.hid (by
            have e : bu s k = 92 := by rw [hbu]; exact UInt8.toNat_inj.1 (by show _ = 92; omega)
            rw [e]; rfl)
          clear hbu HPR
          go_wp2
          all_goals first
            | (exfalso; omega; done)
            | skip
          go_roundw
          case rel => exact ⟨k + 1, _, by omega, by go_num, rfl, by trivial, by
            rw [ByteArray.append_assoc]
            exact HQ.out.step hkl (by rw [HE.out, ByteArray.data_append, Array.toList_append, HX1.out]; rfl)⟩
          case measure => simp [intOf]; omega
        · have b92 : (((s[k]'hkl).toNat : Int) == 92) = false := by simpa using h92
          have HE : Hid (escB 34 (bu s k) = [bu s k]) := Lib.hid (by
            have e1 : ¬ bu s k = 34 := by rw [hbu]; intro q; rw [q] at h34; exact h34 rfl
            have e2 : ¬ bu s k = 92 := by rw [hbu]; intro q; rw [q] at h92; exact h92 rfl
            have e3 : ¬ ((bu s k).toNat < 32 ∨ 126 < (bu s k).toNat) := by rw [hbu]; omega
            unfold escB backF
            rw [if_neg e2, if_neg e1, if_pos rfl]
            show (if _ then _ else _) = _
            rw [if_neg e3])
          clear hbu HPR
          go_wp2
          all_goals first
            | (exfalso; omega; done)
            | skip
          go_roundw
          case rel => exact ⟨k + 1, _, by omega, by go_num, rfl, by trivial, HQ.out.step hkl (by rw [HE.out, HX1.out])⟩
          case measure => simp [intOf]; omega
    · have l1 : decide ((k : Int) < (s.size : Int)) = false := decide_eq_false (by omega)
      obtain rfl : k = s.size := by omega
      go_wp2
      all_goals first
        | (exfalso; omega; done)
        | skip
      go_ret
      exact ⟨by rw [← HQ.out.done]; rfl, rfl⟩
set_option maxHeartbeats 4000000 in
set_option maxRecDepth 100000 in
theorem rQuoted_any (s : ByteArray) (w : World) (hs : s.size ≤ 1000000) :
    Calls Tryz.prog 33 #[.string s] w fun e w' => e = .returned (.string (quotedB 39 s)) ∧ w' = w := by
  go_enter Tryz.func33, Tryz.ntmps33
  go_wp2
  go_loopw [4, 3] (fun i o wr => ∃ (k : Nat) (t : ByteArray), k ≤ s.size ∧ i = .int .i64 k ∧ o = .string t ∧ wr = w ∧ Hid (QOut 39 s k t)) (fun i _ _ => s.size - (intOf i).toNat)
  case atStart => exact ⟨0, _, Nat.zero_le _, rfl, rfl, rfl, Lib.hid (by unfold QOut; simp)⟩
  case round =>
    obtain ⟨k, t, hk, rfl, rfl, rfl, HQ⟩ := hrel
    have htl := HQ.out.len
    by_cases hkl : k < s.size
    · have l1 : decide ((k : Int) < (s.size : Int)) = true := decide_eq_true (by omega)
      have l2 : decide (k < s.size) = true := decide_eq_true hkl
      have wk : IntKind.i64.wrap ((k : Int) + 1) = k + 1 := IntWalk.i64_in _ (by omega)
      have c1 : (0 : Int) ≤ k := by omega
      have c2 : (k : Int) ≤ k + 1 := by omega
      have c3 : (k : Int) + 1 ≤ s.size := by omega
      have hbu : bu s k = s[k]'hkl := by unfold bu; rw [dif_pos hkl]
      have HX1 := Lib.hid (ext_one hkl)
      have hlt := (s[k]'hkl).toNat_lt
      by_cases h39 : ((s[k]'hkl).toNat : Int) = 39
      · have HE : Hid (escB 39 (bu s k) = [92, bu s k]) := Lib.hid (by
          have e : bu s k = 39 := by rw [hbu]; exact UInt8.toNat_inj.1 (by show _ = 39; omega)
          rw [e]; rfl)
        clear hbu hlt
        go_wp2
        all_goals first
          | (exfalso; omega; done)
          | skip
        go_roundw
        case rel => exact ⟨k + 1, _, by omega, by go_num, rfl, by trivial, HQ.out.step hkl (by rw [HE.out, ByteArray.data_append, Array.toList_append, HX1.out]; rfl)⟩
        case measure => simp [intOf]; omega
      have b39 : (((s[k]'hkl).toNat : Int) == 39) = false := by simpa using h39
      by_cases h92 : ((s[k]'hkl).toNat : Int) = 92
      · have HE : Hid (escB 39 (bu s k) = [92, bu s k]) := Lib.hid (by
          have e : bu s k = 92 := by rw [hbu]; exact UInt8.toNat_inj.1 (by show _ = 92; omega)
          rw [e]; rfl)
        clear hbu hlt
        go_wp2
        all_goals first
          | (exfalso; omega; done)
          | skip
        go_roundw
        case rel => exact ⟨k + 1, _, by omega, by go_num, rfl, by trivial, HQ.out.step hkl (by rw [HE.out, ByteArray.data_append, Array.toList_append, HX1.out]; rfl)⟩
        case measure => simp [intOf]; omega
      have b92 : (((s[k]'hkl).toNat : Int) == 92) = false := by simpa using h92
      by_cases h10 : ((s[k]'hkl).toNat : Int) = 10
      · have HE : Hid (escB 39 (bu s k) = [92, 110]) := Lib.hid (by
          have e : bu s k = 10 := by rw [hbu]; exact UInt8.toNat_inj.1 (by show _ = 10; omega)
          rw [e]; rfl)
        clear hbu hlt
        go_wp2
        all_goals first
          | (exfalso; omega; done)
          | skip
        go_roundw
        case rel => exact ⟨k + 1, _, by omega, by go_num, rfl, by trivial, HQ.out.step hkl (by rw [HE.out])⟩
        case measure => simp [intOf]; omega
      have b10 : (((s[k]'hkl).toNat : Int) == 10) = false := by simpa using h10
      by_cases h9 : ((s[k]'hkl).toNat : Int) = 9
      · have HE : Hid (escB 39 (bu s k) = [92, 116]) := Lib.hid (by
          have e : bu s k = 9 := by rw [hbu]; exact UInt8.toNat_inj.1 (by show _ = 9; omega)
          rw [e]; rfl)
        clear hbu hlt
        go_wp2
        all_goals first
          | (exfalso; omega; done)
          | skip
        go_roundw
        case rel => exact ⟨k + 1, _, by omega, by go_num, rfl, by trivial, HQ.out.step hkl (by rw [HE.out])⟩
        case measure => simp [intOf]; omega
      have b9 : (((s[k]'hkl).toNat : Int) == 9) = false := by simpa using h9
      have hback : backF 39 (bu s k) = none := by
        have e1 : ¬ bu s k = 39 := by rw [hbu]; intro q; rw [q] at h39; exact h39 rfl
        have e2 : ¬ bu s k = 92 := by rw [hbu]; intro q; rw [q] at h92; exact h92 rfl
        have e3 : ¬ bu s k = 10 := by rw [hbu]; intro q; rw [q] at h10; exact h10 rfl
        have e4 : ¬ bu s k = 9 := by rw [hbu]; intro q; rw [q] at h9; exact h9 rfl
        unfold backF
        rw [if_neg e2, if_neg e1, if_neg (by decide), if_neg e3, if_neg e4]
      by_cases hw : (s[k]'hkl).toNat < 32 ∨ 126 < (s[k]'hkl).toNat
      · have HE : Hid (escB 39 (bu s k) = [92, 120, hexd ((s[k]'hkl).toNat / 16), hexd ((s[k]'hkl).toNat % 16)]) := Lib.hid (by
          unfold escB
          rw [hback, hbu]
          show (if _ then _ else _) = _
          rw [if_pos hw])
        have hH : ∀ w, Calls Tryz.prog 67 #[.int .u8 (((s[k]'hkl).toNat : Int) / 16 % 256)] w fun e w' => e = .returned (.string ⟨#[hexd ((s[k]'hkl).toNat / 16)]⟩) ∧ w' = w := fun w => by
          rw [show ((s[k]'hkl).toNat : Int) / 16 % 256 = (((s[k]'hkl).toNat / 16 : Nat) : Int) by omega]
          exact rhex_any ((s[k]'hkl).toNat / 16) (by omega) w
        have hL : ∀ w, Calls Tryz.prog 67 #[.int .u8 (((s[k]'hkl).toNat : Int) % 16)] w fun e w' => e = .returned (.string ⟨#[hexd ((s[k]'hkl).toNat % 16)]⟩) ∧ w' = w := fun w => rhex_any ((s[k]'hkl).toNat % 16) (by omega) w
        have hw2 : (((s[k]'hkl).toNat : Int) < 32) ∨ (¬ ((s[k]'hkl).toNat : Int) < 32 ∧ (126 : Int) < (s[k]'hkl).toNat) := by omega
        clear hw hlt hback hbu
        rcases hw2 with hw2 | ⟨hw2, hw3⟩
        · have d1 : decide (((s[k]'hkl).toNat : Int) < 32) = true := decide_eq_true hw2
          clear hw2
          go_wp2_with fail
          refine (hH _).mono ?_
          rintro e w1 ⟨rfl, rfl⟩
          go_wp2_with fail
          refine (hL _).mono ?_
          rintro e w1 ⟨rfl, rfl⟩
          go_wp2
          all_goals first
            | (exfalso; omega; done)
            | skip
          go_roundw
          case rel => exact ⟨k + 1, _, by omega, by go_num, rfl, by trivial, HQ.out.step hkl (by rw [HE.out, ByteArray.data_append, Array.toList_append, ByteArray.data_append, Array.toList_append]; rfl)⟩
          case measure => simp [intOf]; omega
        · have d1 : decide (((s[k]'hkl).toNat : Int) < 32) = false := decide_eq_false hw2
          have d2 : decide ((126 : Int) < (s[k]'hkl).toNat) = true := decide_eq_true hw3
          clear hw2 hw3
          go_wp2_with fail
          refine (hH _).mono ?_
          rintro e w1 ⟨rfl, rfl⟩
          go_wp2_with fail
          refine (hL _).mono ?_
          rintro e w1 ⟨rfl, rfl⟩
          go_wp2
          all_goals first
            | (exfalso; omega; done)
            | skip
          go_roundw
          case rel => exact ⟨k + 1, _, by omega, by go_num, rfl, by trivial, HQ.out.step hkl (by rw [HE.out, ByteArray.data_append, Array.toList_append, ByteArray.data_append, Array.toList_append]; rfl)⟩
          case measure => simp [intOf]; omega
      · have HE : Hid (escB 39 (bu s k) = [bu s k]) := Lib.hid (by
          unfold escB
          rw [hback]
          show (if _ then _ else _) = _
          rw [if_neg (by rw [hbu]; exact hw)])
        have d1 : decide (((s[k]'hkl).toNat : Int) < 32) = false := decide_eq_false (by omega)
        have d2 : decide ((126 : Int) < ((s[k]'hkl).toNat : Int)) = false := decide_eq_false (by omega)
        clear hbu hlt hback hw
        go_wp2
        all_goals first
          | (exfalso; omega; done)
          | skip
        go_roundw
        case rel => exact ⟨k + 1, _, by omega, by go_num, rfl, by trivial, HQ.out.step hkl (by rw [HE.out, HX1.out])⟩
        case measure => simp [intOf]; omega
    · have l1 : decide ((k : Int) < (s.size : Int)) = false := decide_eq_false (by omega)
      obtain rfl : k = s.size := by omega
      go_wp2
      all_goals first
        | (exfalso; omega; done)
        | skip
      go_ret
      exact ⟨by rw [← HQ.out.done]; rfl, rfl⟩
end Go.Proofs.YtmapaagdaojpaaaGreatDoor
