/- The scanner's run: the place behind the longest run of bytes. -/
import Derived.Test.YtmapaagdaojpaaaGreatDoorLeaf
namespace Go.Proofs.YtmapaagdaojpaaaGreatDoor
open Go.RowKit

theorem lib_step {s : ByteArray} {p : Int → Bool} {k m : Nat} (h : Hid (runTo s p k = runTo s p m)) (hk : k < s.size) (hp : p (bt s k) = true) : Hid (runTo s p (k + 1) = runTo s p m) :=
  (runTo_step hk hp).symm.trans h

theorem inner_eq {more : ByteArray} {x : Nat} {c v ix : Int} (hb : (x : Int) = c) (hv : cls x = v) (hi : Lib.indexByte more.data.toList (x : Int).toNat.toUInt8 = ix) :
    inner more c = (v == 2 || v == 3 || decide (0 ≤ ix)) := by subst hb hv hi; rfl
theorem inner_cls (more : ByteArray) {x : Nat} {c v : Int} (hb : (x : Int) = c) (hv : cls x = v) (h : (v == 2 || v == 3) = true) : inner more c = true := by
  rw [inner_eq hb hv rfl, h]; rfl
theorem hq_scan {w wr : World} {b : Nat} {s : ByteArray} {at_ : Nat} {sp : Value} (h : Hid (∃ d, wr = w.drewN d)) (hw : ScanRow b s at_ sp w) : ScanRow b s at_ sp wr := by
  obtain ⟨d, rfl⟩ := h; exact hw.drewN d
theorem hq_step {w wr : World} {n : Nat} (h : Hid (∃ d, wr = w.drewN d)) : ∃ d, wr.drewN n = w.drewN d := by
  obtain ⟨d, rfl⟩ := h; exact ⟨_, World.drewN_drewN _ _ _⟩
set_option maxHeartbeats 1000000 in
set_option maxRecDepth 100000 in
theorem run_any (b : Nat) (s more : ByteArray) (at_ from_ : Nat) (sp : Value) (w : World) (hs : s.size ≤ 40000) (h1 : from_ ≤ s.size) (hw : ScanRow b s at_ sp w) :
    Calls Tryz.prog 59 #[.pointer (some ⟨b, 0, none⟩), .int .i64 from_, .string more] w fun e w' => e = .returned (.int .i64 (runTo s (inner more) from_)) ∧ ∃ k, w' = w.drewN k := by
  go_enter Tryz.func59, Tryz.ntmps59
  go_wp2
  go_loopw [1] (fun i wr => ∃ k : Nat, k ≤ s.size ∧ i = .int .i64 k ∧ Hid (runTo s (inner more) k = runTo s (inner more) from_) ∧ Hid (∃ d, wr = w.drewN d)) (fun i _ => s.size - (intOf i).toNat)
  case atStart => exact ⟨from_, h1, rfl, rfl, ⟨0, rfl⟩⟩
  case round =>
    obtain ⟨k, hk, rfl, hR, hQ⟩ := hrel
    have hwr := hq_scan hQ hw
    have hc0 := hwr.c0
    by_cases hlt : k < s.size
    · have hl : decide (k < s.size) = true := by simpa using hlt
      have hx1 : (s[k]'hlt).toNat < 256 := (s[k]).toNat_lt
      have hb := bt_in hlt
      have hc2 := hwr.c2 (s[k]'hlt).toNat hx1
      have HB : Hid (((s[k]'hlt).toNat : Int) = bt s k) := hb
      clear hb
      generalize hv : cls (s[k]'hlt).toNat = v at hc2
      have HV := Lib.hid hv
      clear hv
      by_cases e2 : v = 2
      · subst e2
        go_wp2
        go_quiet (fail)
        go_wp2
        go_roundw
        case rel => exact ⟨k + 1, by omega, by go_num, lib_step hR hlt (inner_cls more HB.out HV.out (by decide)), hq_step hQ⟩
        case measure => simp [intOf]; omega
      · have n2 : (v == 2) = false := by simpa using e2
        by_cases e3 : v = 3
        · subst e3
          go_wp2
          go_quiet (fail)
          go_wp2
          go_roundw
          case rel => exact ⟨k + 1, by omega, by go_num, lib_step hR hlt (inner_cls more HB.out HV.out (by decide)), hq_step hQ⟩
          case measure => simp [intOf]; omega
        · have n3 : (v == 3) = false := by simpa using e3
          clear e2 e3
          have hI := fun w => Tryz.strings_IndexByte more ((s[k]'hlt).toNat : Int) w
          generalize hix : Lib.indexByte more.data.toList ((s[k]'hlt).toNat : Int).toNat.toUInt8 = ix at hI
          have HI := Lib.hid hix
          clear hix
          by_cases h0 : 0 ≤ ix
          · go_wp2
            go_quiet ((go_at_call 68; exact Calls.quiet_of_same (hI _)))
            go_wp2
            go_roundw
            case rel => exact ⟨k + 1, by omega, by go_num, lib_step hR hlt (by rw [inner_eq HB.out HV.out HI.out, decide_eq_true h0]; simp), hq_step hQ⟩
            case measure => simp [intOf]; omega
          · go_wp2
            go_quiet ((go_at_call 68; exact Calls.quiet_of_same (hI _)))
            go_wp2
            go_ret
            exact ⟨ret_int (by rw [← hR.out, runTo_stop (by rintro ⟨_, q⟩; rw [inner_eq HB.out HV.out HI.out, n2, n3, decide_eq_false (by omega)] at q; cases q)]), hq_step hQ⟩
    · have hl : decide (k < s.size) = false := by simpa using hlt
      go_wp2
      go_quiet (fail)
      go_wp2
      go_ret
      exact ⟨ret_int (by rw [← hR.out, runTo_stop (by omega)]), hq_step hQ⟩
end Go.Proofs.YtmapaagdaojpaaaGreatDoor
