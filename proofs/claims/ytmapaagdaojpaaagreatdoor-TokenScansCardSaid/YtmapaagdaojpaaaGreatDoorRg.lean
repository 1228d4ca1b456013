/- The reference's hexadecimal digits and runs. The reference's skip. Plain: gaps and tokens of a text, one behind the other; what is inside a comment. The reference's inside: is a byte of a gap in a comment? Plain: a token as the reference reads it. -/
import Derived.Test.YtmapaagdaojpaaaGreatDoorRc
import Derived.Test.YtmapaagdaojpaaaGreatDoorPx
import Derived.Test.YtmapaagdaojpaaaGreatDoorRa
import Derived.Test.YtmapaagdaojpaaaGreatDoorWx
import Derived.OwnWalk
import Derived.Test.YtmapaagdaojpaaaGreatDoorBx
namespace Go.Proofs.YtmapaagdaojpaaaGreatDoor
open Go.RowKit

def hexI (c : Int) : Int := (hexv c).getD (-1)
theorem dig_is (c : Int) (h0 : 0 ≤ c) (h1 : c ≤ 255) : (cls c.toNat == 3) = decide (48 ≤ c ∧ c ≤ 57) := by
  have : ∀ i : Fin 256, (cls (i.val : Int).toNat == 3) = decide (48 ≤ (i.val : Int) ∧ (i.val : Int) ≤ 57) := by decide +kernel
  have h := this ⟨c.toNat, by omega⟩
  have e : ((c.toNat : Nat) : Int) = c := by omega
  dsimp only at h
  rwa [e] at h
set_option maxHeartbeats 800000 in
theorem rhexd_any (c : Int) (h0 : 0 ≤ c) (h1 : c ≤ 255) (w : World) :
    Calls Tryz.prog 101 #[.int .u8 c] w fun e w' => e = .returned (.int .i64 (hexI c)) ∧ w' = w := by
  have hD := fun w => rDigit_any c h0 w
  rw [dig_is c h0 h1] at hD
  by_cases d1 : 48 ≤ c ∧ c ≤ 57
  · have HV : Hid (hexI c = c - 48) := Lib.hid (by unfold hexI hexv; rw [if_pos d1]; rfl)
    rw [decide_eq_true d1] at hD
    have e1 : IntKind.u8.wrap (c - 48) = c - 48 := IntWalk.u8_in _ (by omega)
    have e2 : IntKind.i64.wrap (c - 48) = c - 48 := IntWalk.i64_in _ (by omega)
    go_enter Tryz.func101, Tryz.ntmps101
    go_wp2_with (go_at_call 69; refine (hD _).mono ?_; rintro e w' ⟨rfl, rfl⟩)
    go_ret
    exact ⟨by rw [HV.out]; rfl, rfl⟩
  rw [decide_eq_false d1] at hD
  by_cases d2 : 97 ≤ c ∧ c ≤ 102
  · have HV : Hid (hexI c = c - 87) := Lib.hid (by unfold hexI hexv; rw [if_neg d1, if_pos d2]; rfl)
    have e1 : IntKind.u8.wrap (c - 97) = c - 97 := IntWalk.u8_in _ (by omega)
    have e2 : IntKind.i64.wrap (c - 97) = c - 97 := IntWalk.i64_in _ (by omega)
    have e3 : IntKind.i64.wrap (c - 97 + 10) = c - 87 := (IntWalk.i64_in _ (by omega)).trans (by omega)
    have g1 : decide (97 ≤ c) = true := decide_eq_true d2.1
    have g2 : decide (c ≤ 102) = true := decide_eq_true d2.2
    clear d1 d2
    go_enter Tryz.func101, Tryz.ntmps101
    go_wp2_with (go_at_call 69; refine (hD _).mono ?_; rintro e w' ⟨rfl, rfl⟩)
    go_ret
    exact ⟨by rw [HV.out]; rfl, rfl⟩
  by_cases d3 : 65 ≤ c ∧ c ≤ 70
  · have HV : Hid (hexI c = c - 55) := Lib.hid (by unfold hexI hexv; rw [if_neg d1, if_neg d2, if_pos d3]; rfl)
    have e1 : IntKind.u8.wrap (c - 65) = c - 65 := IntWalk.u8_in _ (by omega)
    have e2 : IntKind.i64.wrap (c - 65) = c - 65 := IntWalk.i64_in _ (by omega)
    have e3 : IntKind.i64.wrap (c - 65 + 10) = c - 55 := (IntWalk.i64_in _ (by omega)).trans (by omega)
    have g1 : decide (97 ≤ c) = false := decide_eq_false (by omega)
    have g3 : decide (65 ≤ c) = true := decide_eq_true d3.1
    have g4 : decide (c ≤ 70) = true := decide_eq_true d3.2
    clear d1 d2 d3
    go_enter Tryz.func101, Tryz.ntmps101
    go_wp2_with (go_at_call 69; refine (hD _).mono ?_; rintro e w' ⟨rfl, rfl⟩)
    go_ret
    exact ⟨by rw [HV.out]; rfl, rfl⟩
  have HV : Hid (hexI c = -1) := Lib.hid (by unfold hexI hexv; rw [if_neg d1, if_neg d2, if_neg d3]; rfl)
  by_cases g1 : 97 ≤ c
  · have g1' : decide (97 ≤ c) = true := decide_eq_true g1
    have g2 : decide (c ≤ 102) = false := decide_eq_false (by omega)
    have g3 : decide (65 ≤ c) = true := decide_eq_true (by omega)
    have g4 : decide (c ≤ 70) = false := decide_eq_false (by omega)
    clear d1 d2 d3 g1
    go_enter Tryz.func101, Tryz.ntmps101
    go_wp2_with (go_at_call 69; refine (hD _).mono ?_; rintro e w' ⟨rfl, rfl⟩)
    go_ret
    exact ⟨by rw [HV.out]; rfl, rfl⟩
  by_cases g3 : 65 ≤ c
  · have g1' : decide (97 ≤ c) = false := decide_eq_false g1
    have g3' : decide (65 ≤ c) = true := decide_eq_true g3
    have g4 : decide (c ≤ 70) = false := decide_eq_false (by omega)
    clear d1 d2 d3 g1 g3
    go_enter Tryz.func101, Tryz.ntmps101
    go_wp2_with (go_at_call 69; refine (hD _).mono ?_; rintro e w' ⟨rfl, rfl⟩)
    go_ret
    exact ⟨by rw [HV.out]; rfl, rfl⟩
  · have g1' : decide (97 ≤ c) = false := decide_eq_false g1
    have g3' : decide (65 ≤ c) = false := decide_eq_false g3
    clear d1 d2 d3 g1 g3
    go_enter Tryz.func101, Tryz.ntmps101
    go_wp2_with (go_at_call 69; refine (hD _).mono ?_; rintro e w' ⟨rfl, rfl⟩)
    go_ret
    exact ⟨by rw [HV.out]; rfl, rfl⟩
theorem none_dash : ∀ x : Fin 256, inner none8 (x.val : Int) = (inner dashes x.val && !((x.val : Int) == 45 || (x.val : Int) == 95)) := by decide +kernel
theorem none_is (c : Int) (h0 : 0 ≤ c) (h1 : c ≤ 255) : inner none8 c = (inner dashes c && !(c == 45 || c == 95)) := by
  have h := none_dash ⟨c.toNat, by omega⟩
  have e : ((c.toNat : Nat) : Int) = c := by omega
  dsimp only at h
  rwa [e] at h
def runP (pl : Bool) : Int → Bool := if pl then inner none8 else inner dashes
set_option maxHeartbeats 1600000 in
set_option maxRecDepth 100000 in
theorem rrun_any (s : ByteArray) (i : Nat) (pl : Bool) (w : World) (hs : s.size ≤ 1000000) (hi : i ≤ s.size) :
    Calls Tryz.prog 77 #[.string s, .int .i64 i, .bool pl] w fun e w' => e = .returned (.int .i64 (runTo s (runP pl) i)) ∧ w' = w := by
  generalize hR : runTo s (runP pl) i = R
  have HR := Lib.hid hR
  clear hR
  go_enter Tryz.func77, Tryz.ntmps77
  go_wp2
  go_loopw [1] (fun x wr => ∃ k : Nat, k ≤ s.size ∧ x = .int .i64 k ∧ wr = w ∧ Hid (runTo s (runP pl) k = R)) (fun x _ => s.size - (intOf x).toNat)
  case atStart => exact ⟨i, hi, rfl, rfl, HR⟩
  case round =>
    obtain ⟨k, hk, rfl, rfl, HK⟩ := hrel
    by_cases hkl : k < s.size
    · have l1 : decide ((k : Int) < (s.size : Int)) = true := decide_eq_true (by omega)
      have l2 : decide (k < s.size) = true := decide_eq_true hkl
      have wk : IntKind.i64.wrap ((k : Int) + 1) = k + 1 := IntWalk.i64_in _ (by omega)
      have HX := Lib.hid (bt_in hkl)
      have hI : ∀ w, Calls Tryz.prog 83 #[.int .u8 ((s[k]'hkl).toNat : Int)] w fun e w' => e = .returned (.bool (inner dashes (bt s k))) ∧ w' = w := fun w => by
        rw [HX.out]; exact rInner_any _ (bt_lo s k) (bt_hi s k) w
      have HN := Lib.hid (none_is (bt s k) (bt_lo s k) (bt_hi s k))
      cases hin : inner dashes (bt s k) with
      | false =>
        rw [hin] at hI
        have HE : Hid (R = k) := Lib.hid (by
          rw [← HK.out]
          refine runTo_stop ?_
          rintro ⟨_, q⟩
          unfold runP at q
          cases pl with
          | true => rw [if_pos rfl, HN.out, hin] at q; cases q
          | false => rw [if_neg (by decide), hin] at q; cases q)
        clear hin
        go_wp2_with (go_at_call 83; refine (hI _).mono ?_; rintro e w' ⟨rfl, rfl⟩)
        go_ret
        exact ⟨by rw [HE.out]; rfl, rfl⟩
      | true =>
        rw [hin] at hI
        cases pl with
        | false =>
          have HK2 : Hid (runTo s (runP false) (k + 1) = R) := Lib.hid (by rw [← HK.out]; exact (runTo_step hkl hin).symm)
          clear hin
          go_wp2_with (go_at_call 83; refine (hI _).mono ?_; rintro e w' ⟨rfl, rfl⟩)
          go_roundw
          case rel => exact ⟨k + 1, by omega, by go_num, by trivial, HK2⟩
          case measure => simp [intOf]; omega
        | true =>
          by_cases h45 : ((s[k]'hkl).toNat : Int) = 45
          · have HE : Hid (R = k) := Lib.hid (by
              rw [← HK.out]
              refine runTo_stop ?_
              rintro ⟨_, q⟩
              have q : inner none8 (bt s k) = true := q
              rw [HN.out, ← HX.out, h45] at q
              exact absurd q (by decide))
            have b45 : (((s[k]'hkl).toNat : Int) == 45) = true := by simpa using h45
            clear hin h45
            go_wp2_with (go_at_call 83; refine (hI _).mono ?_; rintro e w' ⟨rfl, rfl⟩)
            go_ret
            exact ⟨by rw [HE.out]; rfl, rfl⟩
          by_cases h95 : ((s[k]'hkl).toNat : Int) = 95
          · have HE : Hid (R = k) := Lib.hid (by
              rw [← HK.out]
              refine runTo_stop ?_
              rintro ⟨_, q⟩
              have q : inner none8 (bt s k) = true := q
              rw [HN.out, ← HX.out, h95] at q
              exact absurd q (by decide))
            have b45 : (((s[k]'hkl).toNat : Int) == 45) = false := by simpa using h45
            have b95 : (((s[k]'hkl).toNat : Int) == 95) = true := by simpa using h95
            clear hin h45 h95
            go_wp2_with (go_at_call 83; refine (hI _).mono ?_; rintro e w' ⟨rfl, rfl⟩)
            go_ret
            exact ⟨by rw [HE.out]; rfl, rfl⟩
          have b45 : (((s[k]'hkl).toNat : Int) == 45) = false := by simpa using h45
          have b95 : (((s[k]'hkl).toNat : Int) == 95) = false := by simpa using h95
          have HK2 : Hid (runTo s (runP true) (k + 1) = R) := Lib.hid (by
            rw [← HK.out]
            refine (runTo_step hkl ?_).symm
            show inner none8 (bt s k) = true
            rw [HN.out, hin, ← HX.out, b45, b95]; rfl)
          clear hin h45 h95
          go_wp2_with (go_at_call 83; refine (hI _).mono ?_; rintro e w' ⟨rfl, rfl⟩)
          go_roundw
          case rel => exact ⟨k + 1, by omega, by go_num, by trivial, HK2⟩
          case measure => simp [intOf]; omega
    · have l1 : decide ((k : Int) < (s.size : Int)) = false := decide_eq_false (by omega)
      have HE : Hid (R = k) := Lib.hid (by rw [← HK.out]; exact runTo_stop (by omega))
      go_wp2
      go_ret
      exact ⟨by rw [HE.out]; rfl, rfl⟩
end Go.Proofs.YtmapaagdaojpaaaGreatDoor
namespace Go.Proofs.YtmapaagdaojpaaaGreatDoor
open Go.RowKit

/-- Results: a slot, and a struct in memory. -/
theorem results_tmp_row {P : Program} {fn : Func} {p q : Tmp} {ty : TypeId} (h : fn.results = #[.tmp q, .cell p ty]) (tmps : Array Value) (w : World) (g : Nat) (t : TypeId) (cs : Array Value) (fr : Nat × Nat) (d : TypeDesc) (x : Value)
    (hp : tmps.getD p undef = .pointer (some ⟨g, 0, none⟩)) (hq : tmps.getD q undef = x) (hg : w.heap[g]? = some (.cells cs t fr))
    (hu : P.underlying ty = some d) (hd : (match d with | .struct _ | .array _ _ => true | _ => false) = true) (hi : (P.info? ty).map (·.size) = some cs.size) :
    (results fn tmps).run P w = .ok (.tuple #[x, .agg cs]) w := by
  have hp' : tmps[p]?.getD undef = .pointer (some ⟨g, 0, none⟩) := by simpa using hp
  have hq' : tmps[q]?.getD undef = x := by simpa using hq
  simp [results, h, hp', hq', asAddr, run_loadVar_row w g t ty cs fr d hg hu hd hi]
/-- Results: a struct in memory, a slot, a struct in memory. -/
theorem results_row_tmp_row {P : Program} {fn : Func} {p q r : Tmp} {ty ty2 : TypeId} (h : fn.results = #[.cell p ty, .tmp q, .cell r ty2]) (tmps : Array Value) (w : World) (g g2 : Nat) (t t2 : TypeId) (cs cs2 : Array Value) (fr fr2 : Nat × Nat) (d d2 : TypeDesc) (x : Value)
    (hp : tmps.getD p undef = .pointer (some ⟨g, 0, none⟩)) (hq : tmps.getD q undef = x) (hr : tmps.getD r undef = .pointer (some ⟨g2, 0, none⟩)) (hg : w.heap[g]? = some (.cells cs t fr)) (hg2 : w.heap[g2]? = some (.cells cs2 t2 fr2))
    (hu : P.underlying ty = some d) (hd : (match d with | .struct _ | .array _ _ => true | _ => false) = true) (hi : (P.info? ty).map (·.size) = some cs.size)
    (hu2 : P.underlying ty2 = some d2) (hd2 : (match d2 with | .struct _ | .array _ _ => true | _ => false) = true) (hi2 : (P.info? ty2).map (·.size) = some cs2.size) :
    (results fn tmps).run P w = .ok (.tuple #[.agg cs, x, .agg cs2]) w := by
  have hp' : tmps[p]?.getD undef = .pointer (some ⟨g, 0, none⟩) := by simpa using hp
  have hq' : tmps[q]?.getD undef = x := by simpa using hq
  have hr' : tmps[r]?.getD undef = .pointer (some ⟨g2, 0, none⟩) := by simpa using hr
  simp [results, h, hp', hq', hr', asAddr, run_loadVar_row w g t ty cs fr d hg hu hd hi, run_loadVar_row w g2 t2 ty2 cs2 fr2 d2 hg2 hu2 hd2 hi2]
def eCells (a c : Int) : Array Value := #[.int .i64 a, .int .i64 c]
theorem e_cells (a c : Int) : (eCells a c).all (·.oneCell') = true := by simp [eCells, Value.oneCell']
theorem info_e (cs : Array Value) (h : cs.size = 2) : (Tryz.prog.info? 86).map (·.size) = some cs.size := by rw [h]; kernel_rfl
/-- What skip answers: a place, and an error's place and code. -/
def skipV : SkipR → Int × Int × Int
  | .err x => (x, x, 42)
  | .ok j _ => (j, 0, 0)
def SkipAt (s : ByteArray) (T : Int × Int × Int) (k : Nat) : Prop := ∃ n sp, s.size - k < n ∧ skipV (skipN s n k sp) = T
section
variable {s : ByteArray} {T : Int × Int × Int} {k : Nat}
theorem SkipAt.end_ (h : SkipAt s T k) (hk : s.size ≤ k) : T = ((k : Int), (0 : Int), (0 : Int)) := by
  obtain ⟨n, sp, hn, h⟩ := h
  obtain ⟨n, rfl⟩ : ∃ m, n = m + 1 := ⟨n - 1, by omega⟩
  unfold skipN at h
  rw [if_neg (by omega)] at h
  exact h.symm
theorem SkipAt.white (h : SkipAt s T k) (hk : k < s.size) (hw : cls (bt s k).toNat = 1) : SkipAt s T (k + 1) := by
  obtain ⟨n, sp, hn, h⟩ := h
  obtain ⟨n, rfl⟩ : ∃ m, n = m + 1 := ⟨n - 1, by omega⟩
  unfold skipN at h
  rw [if_pos hk, if_pos hw] at h
  exact ⟨n, sp, by omega, h⟩
theorem SkipAt.star (h : SkipAt s T k) (hk : k < s.size) (hw : ¬ cls (bt s k).toNat = 1) (hs : isStar s k = true) (hl : k < lineEnd s k) : SkipAt s T (lineEnd s k) := by
  obtain ⟨n, sp, hn, h⟩ := h
  obtain ⟨n, rfl⟩ : ∃ m, n = m + 1 := ⟨n - 1, by omega⟩
  unfold skipN at h
  rw [if_pos hk, if_neg hw, if_pos hs] at h
  exact ⟨n, _, by omega, h⟩
theorem SkipAt.bad (h : SkipAt s T k) (hk : k < s.size) (hw : ¬ cls (bt s k).toNat = 1) (hs : isStar s k = false) (ho : isOpen s k = true) (hc : comEnd s (k + 2) = none) : T = ((k : Int), (k : Int), (42 : Int)) := by
  obtain ⟨n, sp, hn, h⟩ := h
  obtain ⟨n, rfl⟩ : ∃ m, n = m + 1 := ⟨n - 1, by omega⟩
  unfold skipN at h
  rw [if_pos hk, if_neg hw, if_neg (by simp [hs]), if_pos ho, hc] at h
  exact h.symm
theorem SkipAt.com (h : SkipAt s T k) (hk : k < s.size) (hw : ¬ cls (bt s k).toNat = 1) (hs : isStar s k = false) (ho : isOpen s k = true) {e : Nat} (hc : comEnd s (k + 2) = some e) (hl : k < e) : SkipAt s T e := by
  obtain ⟨n, sp, hn, h⟩ := h
  obtain ⟨n, rfl⟩ : ∃ m, n = m + 1 := ⟨n - 1, by omega⟩
  unfold skipN at h
  rw [if_pos hk, if_neg hw, if_neg (by simp [hs]), if_pos ho, hc] at h
  exact ⟨n, _, by omega, h⟩
theorem SkipAt.stop (h : SkipAt s T k) (hk : k < s.size) (hw : ¬ cls (bt s k).toNat = 1) (hs : isStar s k = false) (ho : isOpen s k = false) : T = ((k : Int), (0 : Int), (0 : Int)) := by
  obtain ⟨n, sp, hn, h⟩ := h
  obtain ⟨n, rfl⟩ : ∃ m, n = m + 1 := ⟨n - 1, by omega⟩
  unfold skipN at h
  rw [if_pos hk, if_neg hw, if_neg (by simp [hs]), if_neg (by simp [ho])] at h
  exact h.symm
end
theorem com_at {s : ByteArray} {i : Nat} (h : i + 1 < s.size) (h1 : bt s i = 42 ∧ bt s (i + 1) = 47) : comEnd s i = some (i + 2) := by
  unfold comEnd
  rw [show s.size - i = (s.size - i - 1) + 1 by omega, comN, if_pos h, if_pos h1]
theorem com_on {s : ByteArray} {i : Nat} (h : i + 1 < s.size) (h1 : ¬ (bt s i = 42 ∧ bt s (i + 1) = 47)) : comEnd s i = comEnd s (i + 1) := by
  unfold comEnd
  rw [show s.size - i = (s.size - (i + 1)) + 1 by omega, comN, if_pos h, if_neg h1]
theorem com_none {s : ByteArray} {i : Nat} (h : ¬ i + 1 < s.size) : comEnd s i = none := by
  unfold comEnd
  cases s.size - i with
  | zero => rfl
  | succ n => rw [comN, if_neg h]
theorem rskip_done {W0 w : World} {X A C a b c : Int} (h : (X, A, C) = (a, b, c)) (hb : Below w.heap.size w W0) :
    Ending.returned (.tuple #[.int .i64 a, .agg (eCells b c)]) = Ending.returned (.tuple #[.int .i64 X, .agg #[.int .i64 A, .int .i64 C]]) ∧ Below w.heap.size w (W0.setRow w.heap.size (eCells b c)) := by
  cases h
  exact ⟨rfl, hb.trans ⟨rfl, rfl, rfl, by simp, fun k hk => setRow_other _ _ _ _ (by omega)⟩⟩
set_option maxHeartbeats 4000000 in
set_option maxRecDepth 100000 in
theorem rskip_any (s : ByteArray) (i : Nat) (w : World) (hs : s.size ≤ 1000000) (hi : i ≤ s.size) (X A C : Int) (hT : SkipAt s (X, A, C) i) :
    Calls Tryz.prog 51 #[.string s, .int .i64 i] w fun e w' => e = .returned (.tuple #[.int .i64 X, .agg #[.int .i64 A, .int .i64 C]]) ∧ Below w.heap.size w w' := by
  have HT := Lib.hid hT
  clear hT
  go_enter Tryz.func51, Tryz.ntmps51
  go_wp2
  generalize hW0 : World.alloc _ _ = W0
  have hE : W0.heap[w.heap.size]? = some (.cells (eCells 0 0) 86 (0, 0)) := by rw [← hW0]; exact heap_alloc_new w _
  have HBW : Hid (Below w.heap.size w W0) := Lib.hid (by rw [← hW0]; exact below_alloc1 _ _)
  clear hW0
  go_loopw [1] (fun x wr => ∃ k : Nat, k ≤ s.size ∧ x = .int .i64 k ∧ wr = W0 ∧ Hid (SkipAt s (X, A, C) k)) (fun x _ => s.size - (intOf x).toNat)
  case atStart => exact ⟨i, hi, rfl, rfl, HT⟩
  case round =>
    obtain ⟨k, hk, rfl, rfl, HK⟩ := hrel
    by_cases hkl : k < s.size
    · have l1 : decide ((k : Int) < (s.size : Int)) = true := decide_eq_true (by omega)
      have l2 : decide (k < s.size) = true := decide_eq_true hkl
      have wk : IntKind.i64.wrap ((k : Int) + 1) = k + 1 := IntWalk.i64_in _ (by omega)
      have wk2 : IntKind.i64.wrap ((k : Int) + 2) = k + 2 := IntWalk.i64_in _ (by omega)
      have HX : Hid (((s[k]'hkl).toNat : Int) = bt s k) := bt_in hkl
      have hWh : ∀ w, Calls Tryz.prog 53 #[.int .u8 ((s[k]'hkl).toNat : Int)] w fun e w' => e = .returned (.bool (cls (bt s k).toNat == 1)) ∧ w' = w := fun w => by
        rw [HX.out]; exact rWhite_any _ (bt_lo s k) w
      by_cases hw : cls (bt s k).toNat = 1
      · have HK2 : Hid (SkipAt s (X, A, C) (k + 1)) := Lib.hid (HK.out.white hkl hw)
        rw [show (cls (bt s k).toNat == 1) = true by simpa using hw] at hWh
        clear hw
        go_wp2_with (go_at_call 53; refine (hWh _).mono ?_; rintro e w' ⟨rfl, rfl⟩)
        go_roundw
        case rel => exact ⟨k + 1, by omega, by go_num, by trivial, HK2⟩
        case measure => simp [intOf]; omega
      have HW := Lib.hid hw
      rw [show (cls (bt s k).toNat == 1) = false by simpa using hw] at hWh
      clear hw
      by_cases h42 : ((s[k]'hkl).toNat : Int) = 42
      · have HB : Hid (bt s k = 42) := Lib.hid (HX.out.symm.trans h42)
        have b42 : (((s[k]'hkl).toNat : Int) == 42) = true := beq_iff_eq.2 h42
        have b47 : (((s[k]'hkl).toNat : Int) == 47) = false := by rw [h42]; rfl
        clear h42
        have HO : Hid (isOpen s k = false) := Lib.hid (by unfold isOpen; rw [HB.out]; rfl)
        by_cases hk0 : k = 0
        · have HS : Hid (isStar s k = true) := Lib.hid (by unfold isStar; rw [HB.out, hk0]; rfl)
          have hk0' : ((k : Int) == 0) = true := by rw [beq_iff_eq]; omega
          clear hk0
          have HL : Hid (k < lineEnd s k ∧ lineEnd s k ≤ s.size) := Lib.hid (by
            have h1 : lineEnd s k = lineEnd s (k + 1) := runTo_step hkl (by unfold notLf; rw [HB.out]; rfl)
            have h2 := runTo_le s notLf (k + 1) hkl
            unfold lineEnd at h1 ⊢; omega)
          have HK2 : Hid (SkipAt s (X, A, C) (lineEnd s k)) := Lib.hid (HK.out.star hkl HW.out HS.out HL.out.1)
          go_wp2_with (go_at_call 53; refine (hWh _).mono ?_; rintro e w' ⟨rfl, rfl⟩)
          go_loopw [1] (fun x w2 => ∃ k2 : Nat, k ≤ k2 ∧ k2 ≤ s.size ∧ x = .int .i64 k2 ∧ w2 = w' ∧ Hid (lineEnd s k2 = lineEnd s k)) (fun x _ => s.size - (intOf x).toNat)
          case atStart => exact ⟨k, Nat.le_refl _, by omega, rfl, rfl, rfl⟩
          case round =>
            obtain ⟨k2, hkk, hk2, rfl, rfl, HE2⟩ := hrel
            clear hWh
            by_cases hl2 : k2 < s.size
            · have m1 : decide ((k2 : Int) < (s.size : Int)) = true := decide_eq_true (by omega)
              have m2 : decide (k2 < s.size) = true := decide_eq_true hl2
              have mk : IntKind.i64.wrap ((k2 : Int) + 1) = k2 + 1 := IntWalk.i64_in _ (by omega)
              have HB2 : Hid (((s[k2]'hl2).toNat : Int) = bt s k2) := bt_in hl2
              by_cases h10 : ((s[k2]'hl2).toNat : Int) = 10
              · have HE3 : Hid (lineEnd s k = k2) := Lib.hid (by
                  rw [← HE2.out]; exact runTo_stop (by rintro ⟨_, q⟩; unfold notLf at q; rw [← HB2.out, h10] at q; exact absurd q (by decide)))
                have n10 : (((s[k2]'hl2).toNat : Int) != 10) = false := by simpa using h10
                clear h10
                go_wp2
                go_roundw
                case rel => exact ⟨k2, by omega, rfl, by trivial, by rw [← HE3.out]; exact HK2⟩
                case measure => have := HL.out; have := HE3.out; simp [intOf]; omega
              · have HE3 : Hid (lineEnd s (k2 + 1) = lineEnd s k) := Lib.hid (by
                  rw [← HE2.out]; exact (runTo_step hl2 (by unfold notLf; rw [← HB2.out]; simpa using h10)).symm)
                have n10 : (((s[k2]'hl2).toNat : Int) != 10) = true := by simpa using h10
                clear h10
                go_wp2
                go_roundw
                case rel => exact ⟨k2 + 1, by omega, by omega, by go_num, by trivial, HE3⟩
                case measure => simp [intOf]; omega
            · have m1 : decide ((k2 : Int) < (s.size : Int)) = false := decide_eq_false (by omega)
              have HE3 : Hid (lineEnd s k = k2) := Lib.hid (by rw [← HE2.out]; exact runTo_stop (by omega))
              go_wp2
              go_roundw
              case rel => exact ⟨k2, by omega, rfl, by trivial, by rw [← HE3.out]; exact HK2⟩
              case measure => have := HL.out; have := HE3.out; simp [intOf]; omega
        · obtain ⟨m, hm⟩ : ∃ m, m + 1 = k := ⟨k - 1, by omega⟩
          have hk0' : ((k : Int) == 0) = false := by rw [beq_eq_false_iff_ne]; omega
          have hpm : IntKind.i64.wrap ((k : Int) - 1) = (m : Int) := (IntWalk.i64_in _ (by omega)).trans (by omega)
          have hml : m < s.size := by omega
          have hmd : decide (m < s.size) = true := decide_eq_true hml
          have HXm : Hid (((s[m]'hml).toNat : Int) = bt s (k - 1)) := Lib.hid (by rw [← hm, Nat.add_sub_cancel]; exact bt_in hml)
          by_cases h10 : ((s[m]'hml).toNat : Int) = 10
          · have HS : Hid (isStar s k = true) := Lib.hid (by unfold isStar; rw [HB.out, ← HXm.out, h10]; simp)
            have n10 : (((s[m]'hml).toNat : Int) == 10) = true := beq_iff_eq.2 h10
            clear hk0 hm h10
            have HL : Hid (k < lineEnd s k ∧ lineEnd s k ≤ s.size) := Lib.hid (by
              have h1 : lineEnd s k = lineEnd s (k + 1) := runTo_step hkl (by unfold notLf; rw [HB.out]; rfl)
              have h2 := runTo_le s notLf (k + 1) hkl
              unfold lineEnd at h1 ⊢; omega)
            have HK2 : Hid (SkipAt s (X, A, C) (lineEnd s k)) := Lib.hid (HK.out.star hkl HW.out HS.out HL.out.1)
            go_wp2_with (go_at_call 53; refine (hWh _).mono ?_; rintro e w' ⟨rfl, rfl⟩)
            go_loopw [1] (fun x w2 => ∃ k2 : Nat, k ≤ k2 ∧ k2 ≤ s.size ∧ x = .int .i64 k2 ∧ w2 = w' ∧ Hid (lineEnd s k2 = lineEnd s k)) (fun x _ => s.size - (intOf x).toNat)
            case atStart => exact ⟨k, Nat.le_refl _, by omega, rfl, rfl, rfl⟩
            case round =>
              obtain ⟨k2, hkk, hk2, rfl, rfl, HE2⟩ := hrel
              clear hWh
              by_cases hl2 : k2 < s.size
              · have m1 : decide ((k2 : Int) < (s.size : Int)) = true := decide_eq_true (by omega)
                have m2 : decide (k2 < s.size) = true := decide_eq_true hl2
                have mk : IntKind.i64.wrap ((k2 : Int) + 1) = k2 + 1 := IntWalk.i64_in _ (by omega)
                have HB2 : Hid (((s[k2]'hl2).toNat : Int) = bt s k2) := bt_in hl2
                by_cases h10' : ((s[k2]'hl2).toNat : Int) = 10
                · have HE3 : Hid (lineEnd s k = k2) := Lib.hid (by
                    rw [← HE2.out]; exact runTo_stop (by rintro ⟨_, q⟩; unfold notLf at q; rw [← HB2.out, h10'] at q; exact absurd q (by decide)))
                  have n10 : (((s[k2]'hl2).toNat : Int) != 10) = false := by simpa using h10'
                  clear h10'
                  go_wp2
                  go_roundw
                  case rel => exact ⟨k2, by omega, rfl, by trivial, by rw [← HE3.out]; exact HK2⟩
                  case measure => have := HL.out; have := HE3.out; simp [intOf]; omega
                · have HE3 : Hid (lineEnd s (k2 + 1) = lineEnd s k) := Lib.hid (by
                    rw [← HE2.out]; exact (runTo_step hl2 (by unfold notLf; rw [← HB2.out]; simpa using h10')).symm)
                  have n10 : (((s[k2]'hl2).toNat : Int) != 10) = true := by simpa using h10'
                  clear h10'
                  go_wp2
                  go_roundw
                  case rel => exact ⟨k2 + 1, by omega, by omega, by go_num, by trivial, HE3⟩
                  case measure => simp [intOf]; omega
              · have m1 : decide ((k2 : Int) < (s.size : Int)) = false := decide_eq_false (by omega)
                have HE3 : Hid (lineEnd s k = k2) := Lib.hid (by rw [← HE2.out]; exact runTo_stop (by omega))
                go_wp2
                go_roundw
                case rel => exact ⟨k2, by omega, rfl, by trivial, by rw [← HE3.out]; exact HK2⟩
                case measure => have := HL.out; have := HE3.out; simp [intOf]; omega
          · have n10' : (((s[m]'hml).toNat : Int) == 10) = false := by simpa using h10
            have HS : Hid (isStar s k = false) := Lib.hid (by unfold isStar; rw [HB.out, ← HXm.out, n10', decide_eq_false hk0]; rfl)
            have HD : Hid ((X, A, C) = ((k : Int), (0 : Int), (0 : Int))) := Lib.hid (HK.out.stop hkl HW.out HS.out HO.out)
            clear hk0 hm h10
            go_wp2_with (first | (go_at_call 53; refine (hWh _).mono ?_; rintro e w' ⟨rfl, rfl⟩) | (refine wpList_store_row rfl 86 (.tmp 5) (.tmp 12) rfl w.heap.size (eCells 0 0) rfl rfl 86 (eCells 0 0) hE (info_e _ rfl) rfl (e_cells _ _) ?_))
            refine bodyPost_ret (v := .tuple #[.int .i64 k, .agg (eCells 0 0)]) ?_ rfl ?_
            · exact results_tmp_row rfl _ _ w.heap.size 86 (eCells 0 0) (0, 0) _ _ rfl rfl (setRow_heap _ _ _ _ _ _ (by exact hE)) Tryz.underlying86 rfl (info_e _ rfl)
            exact rskip_done HD.out HBW.out
      · have n42 : (((s[k]'hkl).toNat : Int) == 42) = false := by simpa using h42
        have HS : Hid (isStar s k = false) := Lib.hid (by unfold isStar; rw [show (bt s k == 42) = false by rw [← HX.out]; exact n42]; rfl)
        clear h42
        by_cases h47 : ((s[k]'hkl).toNat : Int) = 47
        · by_cases hk1 : k + 1 < s.size
          · have m1 : decide ((k : Int) + 1 < (s.size : Int)) = true := decide_eq_true (by omega)
            have m3 : decide (k + 1 < s.size) = true := decide_eq_true hk1
            have HX1 : Hid (((s[k + 1]'hk1).toNat : Int) = bt s (k + 1)) := bt_in hk1
            by_cases h42' : ((s[k + 1]'hk1).toNat : Int) = 42
            · have HO : Hid (isOpen s k = true) := Lib.hid (by unfold isOpen; rw [← HX.out, ← HX1.out, h47, h42']; rfl)
              have b47 : (((s[k]'hkl).toNat : Int) == 47) = true := beq_iff_eq.2 h47
              have b42' : (((s[k + 1]'hk1).toNat : Int) == 42) = true := beq_iff_eq.2 h42'
              clear h47 h42'
              go_wp2_with (go_at_call 53; refine (hWh _).mono ?_; rintro e w' ⟨rfl, rfl⟩)
              go_loopw [6] (fun x w2 => ∃ e2 : Nat, k + 2 ≤ e2 ∧ e2 ≤ s.size ∧ x = .int .i64 e2 ∧ w2 = w' ∧ Hid (comEnd s e2 = comEnd s (k + 2))) (fun x _ => s.size - (intOf x).toNat)
              case atStart => exact ⟨k + 2, Nat.le_refl _, by omega, by go_num, rfl, rfl⟩
              case round =>
                obtain ⟨e2, hke, he2, rfl, rfl, HE2⟩ := hrel
                clear hWh
                have mk : IntKind.i64.wrap ((e2 : Int) + 1) = e2 + 1 := IntWalk.i64_in _ (by omega)
                have mk2 : IntKind.i64.wrap ((e2 : Int) + 2) = e2 + 2 := IntWalk.i64_in _ (by omega)
                by_cases hl2 : e2 + 1 < s.size
                · have m1 : decide ((e2 : Int) + 1 < (s.size : Int)) = true := decide_eq_true (by omega)
                  have m1' : decide ((s.size : Int) ≤ (e2 : Int) + 1) = false := decide_eq_false (by omega)
                  have hl3 : e2 < s.size := by omega
                  have m2 : decide (e2 < s.size) = true := decide_eq_true hl3
                  have m3 : decide (e2 + 1 < s.size) = true := decide_eq_true hl2
                  have HB2 : Hid (((s[e2]'hl3).toNat : Int) = bt s e2) := bt_in hl3
                  have HB3 : Hid (((s[e2 + 1]'hl2).toNat : Int) = bt s (e2 + 1)) := bt_in hl2
                  by_cases h42 : ((s[e2]'hl3).toNat : Int) = 42
                  · by_cases h47 : ((s[e2 + 1]'hl2).toNat : Int) = 47
                    · have HC : Hid (comEnd s (k + 2) = some (e2 + 2)) := Lib.hid (by rw [← HE2.out]; exact com_at hl2 ⟨HB2.out.symm.trans h42, HB3.out.symm.trans h47⟩)
                      have HK2 : Hid (SkipAt s (X, A, C) (e2 + 2)) := Lib.hid (HK.out.com hkl HW.out HS.out HO.out HC.out (by omega))
                      go_wp2
                      go_roundw
                      case rel => exact ⟨e2 + 2, by omega, by go_num, by trivial, HK2⟩
                      case measure => simp [intOf]; omega
                    · have n47 : (((s[e2 + 1]'hl2).toNat : Int) == 47) = false := by simpa using h47
                      have HE3 : Hid (comEnd s (e2 + 1) = comEnd s (k + 2)) := Lib.hid (by rw [← HE2.out]; exact (com_on hl2 (by rintro ⟨_, q⟩; exact h47 (HB3.out.trans q))).symm)
                      clear h47
                      go_wp2
                      go_roundw
                      case rel => exact ⟨e2 + 1, by omega, by omega, by go_num, by trivial, HE3⟩
                      case measure => simp [intOf]; omega
                  · have n42 : (((s[e2]'hl3).toNat : Int) == 42) = false := by simpa using h42
                    have HE3 : Hid (comEnd s (e2 + 1) = comEnd s (k + 2)) := Lib.hid (by rw [← HE2.out]; exact (com_on hl2 (by rintro ⟨q, _⟩; exact h42 (HB2.out.trans q))).symm)
                    clear h42
                    go_wp2
                    go_roundw
                    case rel => exact ⟨e2 + 1, by omega, by omega, by go_num, by trivial, HE3⟩
                    case measure => simp [intOf]; omega
                · have m1 : decide ((e2 : Int) + 1 < (s.size : Int)) = false := decide_eq_false (by omega)
                  have m1' : decide ((s.size : Int) ≤ (e2 : Int) + 1) = true := decide_eq_true (by omega)
                  have HD : Hid ((X, A, C) = ((k : Int), (k : Int), (42 : Int))) := Lib.hid (HK.out.bad hkl HW.out HS.out HO.out (by rw [← HE2.out]; exact com_none hl2))
                  go_wp2_with (refine wpList_store_row rfl 86 (.tmp 5) (.tmp 97) rfl w.heap.size (eCells k 42) rfl rfl 86 (eCells 0 0) hE (info_e _ rfl) rfl (e_cells _ _) ?_)
                  refine bodyPost_ret (v := .tuple #[.int .i64 k, .agg (eCells k 42)]) ?_ rfl ?_
                  · exact results_tmp_row rfl _ _ w.heap.size 86 (eCells k 42) (0, 0) _ _ rfl rfl (setRow_heap _ _ _ _ _ _ (by exact hE)) Tryz.underlying86 rfl (info_e _ rfl)
                  exact rskip_done HD.out HBW.out
            · have n42' : (((s[k + 1]'hk1).toNat : Int) == 42) = false := by simpa using h42'
              have HO : Hid (isOpen s k = false) := Lib.hid (by unfold isOpen; rw [show (bt s (k + 1) == 42) = false by rw [← HX1.out]; exact n42', Bool.and_false])
              have HD : Hid ((X, A, C) = ((k : Int), (0 : Int), (0 : Int))) := Lib.hid (HK.out.stop hkl HW.out HS.out HO.out)
              have b47 : (((s[k]'hkl).toNat : Int) == 47) = true := beq_iff_eq.2 h47
              clear h42' h47
              go_wp2_with (first | (go_at_call 53; refine (hWh _).mono ?_; rintro e w' ⟨rfl, rfl⟩) | (refine wpList_store_row rfl 86 (.tmp 5) (.tmp 12) rfl w.heap.size (eCells 0 0) rfl rfl 86 (eCells 0 0) hE (info_e _ rfl) rfl (e_cells _ _) ?_))
              refine bodyPost_ret (v := .tuple #[.int .i64 k, .agg (eCells 0 0)]) ?_ rfl ?_
              · exact results_tmp_row rfl _ _ w.heap.size 86 (eCells 0 0) (0, 0) _ _ rfl rfl (setRow_heap _ _ _ _ _ _ (by exact hE)) Tryz.underlying86 rfl (info_e _ rfl)
              exact rskip_done HD.out HBW.out
          · have m1 : decide ((k : Int) + 1 < (s.size : Int)) = false := decide_eq_false (by omega)
            have HO : Hid (isOpen s k = false) := Lib.hid (by unfold isOpen; rw [bt_out (show s.size ≤ k + 1 by omega)]; simp)
            have b47 : (((s[k]'hkl).toNat : Int) == 47) = true := beq_iff_eq.2 h47
            clear h47
            have HD : Hid ((X, A, C) = ((k : Int), (0 : Int), (0 : Int))) := Lib.hid (HK.out.stop hkl HW.out HS.out HO.out)
            go_wp2_with (first | (go_at_call 53; refine (hWh _).mono ?_; rintro e w' ⟨rfl, rfl⟩) | (refine wpList_store_row rfl 86 (.tmp 5) (.tmp 12) rfl w.heap.size (eCells 0 0) rfl rfl 86 (eCells 0 0) hE (info_e _ rfl) rfl (e_cells _ _) ?_))
            refine bodyPost_ret (v := .tuple #[.int .i64 k, .agg (eCells 0 0)]) ?_ rfl ?_
            · exact results_tmp_row rfl _ _ w.heap.size 86 (eCells 0 0) (0, 0) _ _ rfl rfl (setRow_heap _ _ _ _ _ _ (by exact hE)) Tryz.underlying86 rfl (info_e _ rfl)
            exact rskip_done HD.out HBW.out
        · have n47 : (((s[k]'hkl).toNat : Int) == 47) = false := by simpa using h47
          have HO : Hid (isOpen s k = false) := Lib.hid (by unfold isOpen; rw [show (bt s k == 47) = false by rw [← HX.out]; exact n47]; rfl)
          have HD : Hid ((X, A, C) = ((k : Int), (0 : Int), (0 : Int))) := Lib.hid (HK.out.stop hkl HW.out HS.out HO.out)
          clear h47
          go_wp2_with (first | (go_at_call 53; refine (hWh _).mono ?_; rintro e w' ⟨rfl, rfl⟩) | (refine wpList_store_row rfl 86 (.tmp 5) (.tmp 12) rfl w.heap.size (eCells 0 0) rfl rfl 86 (eCells 0 0) hE (info_e _ rfl) rfl (e_cells _ _) ?_))
          refine bodyPost_ret (v := .tuple #[.int .i64 k, .agg (eCells 0 0)]) ?_ rfl ?_
          · exact results_tmp_row rfl _ _ w.heap.size 86 (eCells 0 0) (0, 0) _ _ rfl rfl (setRow_heap _ _ _ _ _ _ (by exact hE)) Tryz.underlying86 rfl (info_e _ rfl)
          exact rskip_done HD.out HBW.out
    · have l1 : decide ((k : Int) < (s.size : Int)) = false := decide_eq_false (by omega)
      have HD : Hid ((X, A, C) = ((k : Int), (0 : Int), (0 : Int))) := Lib.hid (HK.out.end_ (by omega))
      go_wp2_with (refine wpList_store_row rfl 86 (.tmp 5) (.tmp 101) rfl w.heap.size (eCells 0 0) rfl rfl 86 (eCells 0 0) hE (info_e _ rfl) rfl (e_cells _ _) ?_)
      refine bodyPost_ret (v := .tuple #[.int .i64 k, .agg (eCells 0 0)]) ?_ rfl ?_
      · exact results_tmp_row rfl _ _ w.heap.size 86 (eCells 0 0) (0, 0) _ _ rfl rfl (setRow_heap _ _ _ _ _ _ (by exact hE)) Tryz.underlying86 rfl (info_e _ rfl)
      exact rskip_done HD.out HBW.out
end Go.Proofs.YtmapaagdaojpaaaGreatDoor
namespace Go.Proofs.YtmapaagdaojpaaaGreatDoor

/-- The gap from i on ends at e, and has these comments. -/
def GapAt (s : ByteArray) (i e : Nat) (q : List (Nat × Nat)) : Prop := ∃ n sp, s.size - i < n ∧ skipN s n i sp = .ok e (sp ++ q)
/-- Tokens and gaps from i on. -/
def Lay2 (s : ByteArray) : Nat → List Tk → List (Nat × Nat) → Prop
  | i, [], q => i ≤ s.size ∧ GapAt s i s.size q
  | i, x :: l, q => ∃ q1 q2 fin, q = q1 ++ q2 ∧ i ≤ s.size ∧ GapAt s i x.at_ q1 ∧ x.at_ < s.size ∧ tokN s x.at_ = .ok x.kind x.text fin ∧ Lay2 s fin l q2
theorem toks_lay2 (s : ByteArray) : ∀ (n i : Nat) (sp : List (Nat × Nat)) (acc m : List Tk) (sp' : List (Nat × Nat)), i ≤ s.size → s.size - i < n → toksN s n i sp acc = .ok m sp' → ∃ l q, m = acc ++ l ∧ sp' = sp ++ q ∧ Lay2 s i l q
  | 0, i, _, _, _, _, _, hn, _ => by omega
  | n + 1, i, sp, acc, m, sp', hi, hn, h => by
    unfold toksN at h
    split at h
    · cases h
    · rename_i j sp1 hs
      have hj := skip_le s _ _ _ _ _ hi hs
      obtain ⟨q, hq, _, _, _⟩ := skip_passed s _ _ _ _ _ hi (by omega) hs
      subst hq
      split at h
      · rename_i hjs
        cases h
        subst hjs
        exact ⟨[], q, by simp, rfl, hi, _, sp, by omega, hs⟩
      · split at h
        · cases h
        · rename_i kind text fin ht
          have hf := tok_lt (by omega) ht
          obtain ⟨l, q2, hm, hsp, hl⟩ := toks_lay2 s n fin _ _ _ _ hf.2 (by omega) h
          refine ⟨⟨kind, text, j⟩ :: l, q ++ q2, by rw [hm]; simp, by rw [hsp]; simp, q, q2, fin, rfl, hi, ⟨_, sp, by omega, hs⟩, by show j < s.size; omega, ht, hl⟩
theorem scan_lay2 {s : ByteArray} {m : List Tk} {sp : List (Nat × Nat)} (h : scanN s = .ok m sp) : Lay2 s 0 m sp := by
  unfold scanN at h
  split at h
  · cases h
  · obtain ⟨l, q, hm, hq, hl⟩ := toks_lay2 s _ _ _ _ _ _ (Nat.zero_le _) (by omega) h
    rw [List.nil_append] at hm hq
    rw [hm, hq]; exact hl
section
variable {s : ByteArray} {i e : Nat} {q : List (Nat × Nat)}
theorem GapAt.le (h : GapAt s i e q) (hi : i ≤ s.size) : i ≤ e ∧ e ≤ s.size := by
  obtain ⟨n, sp, _, h⟩ := h
  exact skip_le s _ _ _ _ _ hi h
theorem GapAt.white (h : GapAt s i e q) (hi : i < e) (he : e ≤ s.size) (hw : cls (bt s i).toNat = 1) : GapAt s (i + 1) e q := by
  obtain ⟨n, sp, hn, h⟩ := h
  obtain ⟨n, rfl⟩ : ∃ m, n = m + 1 := ⟨n - 1, by omega⟩
  unfold skipN at h
  rw [if_pos (show i < s.size by omega), if_pos hw] at h
  exact ⟨n, sp, by omega, h⟩
theorem gap_split {n c : Nat} {sp : List (Nat × Nat)} (hc : c ≤ s.size) (hn : s.size - c < n) (h : skipN s n c (sp ++ [(i, c)]) = .ok e (sp ++ q)) : ∃ q', q = (i, c) :: q' ∧ GapAt s c e q' := by
  obtain ⟨q', hq, _, _, _⟩ := skip_passed s _ _ _ _ _ hc hn h
  rw [List.append_assoc] at hq
  have hq2 := List.append_cancel_left hq
  rw [hq2] at h ⊢
  exact ⟨q', rfl, n, sp ++ [(i, c)], hn, by rw [h]; simp⟩
/-- Where the gap goes on and there is no white space, a comment begins. -/
theorem GapAt.comment (h : GapAt s i e q) (hi : i < e) (he : e ≤ s.size) (hw : ¬ cls (bt s i).toNat = 1) :
    (isStar s i = true ∧ ∃ q', q = (i, lineEnd s i) :: q' ∧ GapAt s (lineEnd s i) e q' ∧ i < lineEnd s i ∧ lineEnd s i ≤ s.size) ∨ (isStar s i = false ∧ isOpen s i = true ∧ ∃ c q', comEnd s (i + 2) = some c ∧ q = (i, c) :: q' ∧ GapAt s c e q' ∧ i < c ∧ c ≤ s.size) := by
  obtain ⟨n, sp, hn, h⟩ := h
  obtain ⟨n, rfl⟩ : ∃ m, n = m + 1 := ⟨n - 1, by omega⟩
  have hlt : i < s.size := by omega
  unfold skipN at h
  rw [if_pos hlt, if_neg hw] at h
  by_cases hs : isStar s i = true
  · rw [if_pos hs] at h
    have hl := star_lt' hlt hs
    obtain ⟨q', h1, h2⟩ := gap_split hl.2 (by omega) h
    exact .inl ⟨hs, q', h1, h2, hl⟩
  · rw [if_neg hs] at h
    by_cases ho : isOpen s i = true
    · rw [if_pos ho] at h
      cases hc : comEnd s (i + 2) with
      | none => rw [hc] at h; cases h
      | some c =>
        rw [hc] at h
        have hl := comN_le s _ _ _ hc
        obtain ⟨q', h1, h2⟩ := gap_split hl.2 (by omega) h
        exact .inr ⟨by simpa using hs, ho, c, q', rfl, h1, h2, by omega, hl.2⟩
    · rw [if_neg ho] at h
      simp only [SkipR.ok.injEq] at h
      omega
/-- All comments of a gap lie in it. -/
theorem GapAt.bounds (h : GapAt s i e q) (hi : i ≤ s.size) : (∀ p ∈ q, i ≤ p.1 ∧ p.2 ≤ e) ∧ ∀ x, i ≤ x → x < e → inSp q x = true ∨ cls (bt s x).toNat = 1 := by
  obtain ⟨n, sp, hn, h⟩ := h
  obtain ⟨q', hq, h1, h2, _⟩ := skip_passed s _ _ _ _ _ hi hn h
  have := List.append_cancel_left hq
  subst this
  exact ⟨h1, h2⟩
end
theorem inSp_cons (a : Nat × Nat) (q : List (Nat × Nat)) (x : Nat) : inSp (a :: q) x = ((decide (a.1 ≤ x) && decide (x < a.2)) || inSp q x) := by simp [inSp]
end Go.Proofs.YtmapaagdaojpaaaGreatDoor
namespace Go.Proofs.YtmapaagdaojpaaaGreatDoor
open Go.RowKit

set_option maxHeartbeats 4000000 in
set_option maxRecDepth 100000 in
theorem rinside_any (s : ByteArray) (i a e : Nat) (q : List (Nat × Nat)) (w : World) (hs : s.size ≤ 1000000) (hi : i ≤ a) (ha : a < e) (he : e ≤ s.size) (hg : GapAt s i e q) :
    Calls Tryz.prog 54 #[.string s, .int .i64 i, .int .i64 a] w fun e w' => e = .returned (.bool (inSp q a)) ∧ w' = w := by
  have HG := Lib.hid hg
  clear hg
  go_enter Tryz.func54, Tryz.ntmps54
  go_wp2
  go_loopw [7] (fun x wr => ∃ (k : Nat) (q1 : List (Nat × Nat)), i ≤ k ∧ k ≤ a ∧ x = .int .i64 k ∧ wr = w ∧ Hid (GapAt s k e q1) ∧ Hid (inSp q a = inSp q1 a)) (fun x _ => s.size - (intOf x).toNat)
  case atStart => exact ⟨i, q, Nat.le_refl _, hi, rfl, rfl, HG, Lib.hid rfl⟩
  case round =>
    obtain ⟨k, q1, hik, hka, rfl, rfl, HK, HI⟩ := hrel
    have hkl : k < s.size := by omega
    have l1 : decide ((k : Int) ≤ (a : Int)) = true := decide_eq_true (by omega)
    have l2 : decide (k < s.size) = true := decide_eq_true hkl
    have wk : IntKind.i64.wrap ((k : Int) + 1) = k + 1 := IntWalk.i64_in _ (by omega)
    have wk2 : IntKind.i64.wrap ((k : Int) + 2) = k + 2 := IntWalk.i64_in _ (by omega)
    have HX : Hid (((s[k]'hkl).toNat : Int) = bt s k) := bt_in hkl
    have hWh : ∀ w, Calls Tryz.prog 53 #[.int .u8 ((s[k]'hkl).toNat : Int)] w fun e w' => e = .returned (.bool (cls (bt s k).toNat == 1)) ∧ w' = w := fun w => by
      rw [HX.out]; exact rWhite_any _ (bt_lo s k) w
    by_cases hw : cls (bt s k).toNat = 1
    · have HK2 := Lib.hid (HK.out.white (by omega) he hw)
      rw [show (cls (bt s k).toNat == 1) = true by simpa using hw] at hWh
      clear hw
      by_cases hak : k = a
      · have HD : Hid (inSp q a = false) := Lib.hid (by
          rw [HI.out]; exact inSp_lo (fun p hp => ((HK2.out.bounds (by omega)).1 p hp).1) (by omega))
        have e1 : ((k : Int) == (a : Int)) = true := by rw [beq_iff_eq]; omega
        clear hak
        go_wp2_with (go_at_call 53; refine (hWh _).mono ?_; rintro e w' ⟨rfl, rfl⟩)
        go_ret
        exact ⟨by rw [HD.out]; rfl, rfl⟩
      · have e1 : ((k : Int) == (a : Int)) = false := by rw [beq_eq_false_iff_ne]; omega
        have hka2 : k + 1 ≤ a := by omega
        clear hak
        go_wp2_with (go_at_call 53; refine (hWh _).mono ?_; rintro e w' ⟨rfl, rfl⟩)
        go_roundw
        case rel => exact ⟨k + 1, q1, by omega, hka2, by go_num, by trivial, HK2, HI⟩
        case measure => simp [intOf]; omega
    have hcm := HK.out.comment (by omega) he hw
    rw [show (cls (bt s k).toNat == 1) = false by simpa using hw] at hWh
    clear hw
    rcases hcm with ⟨hst, q', hq', hg', hl1, hl2⟩ | ⟨hst, hop, c, q', hcc, hq', hg', hl1, hl2⟩
    · have h42 : bt s k = 42 := by unfold isStar at hst; simp only [Bool.and_eq_true, beq_iff_eq] at hst; exact hst.1
      have b42 : (((s[k]'hkl).toNat : Int) == 42) = true := by rw [HX.out, h42]; rfl
      have HG2 := Lib.hid hg'
      have HQ : Hid (inSp q a = ((decide (k ≤ a) && decide (a < lineEnd s k)) || inSp q' a)) := Lib.hid (by rw [HI.out, hq', inSp_cons])
      have HL : Hid (k < lineEnd s k ∧ lineEnd s k ≤ s.size) := Lib.hid ⟨hl1, hl2⟩
      clear hst hq' hg' hl1 hl2 h42
      go_wp2_with (go_at_call 53; refine (hWh _).mono ?_; rintro e w' ⟨rfl, rfl⟩)
      go_loopw [8] (fun x w2 => ∃ k2 : Nat, k ≤ k2 ∧ k2 ≤ s.size ∧ x = .int .i64 k2 ∧ w2 = w' ∧ Hid (lineEnd s k2 = lineEnd s k)) (fun x _ => s.size - (intOf x).toNat)
      case atStart => exact ⟨k, Nat.le_refl _, by omega, rfl, rfl, rfl⟩
      case round =>
        obtain ⟨k2, hkk, hk2, rfl, rfl, HE2⟩ := hrel
        clear hWh
        have stop : lineEnd s k = k2 → (a < k2 ∧ inSp q a = true) ∨ (k2 ≤ a ∧ k < k2 ∧ GapAt s k2 e q' ∧ inSp q a = inSp q' a) := fun hE => by
          have h1 := HQ.out
          have h2 := HL.out
          rw [hE] at h1 h2
          rcases Nat.lt_or_ge a k2 with hc | hc
          · exact .inl ⟨hc, by rw [h1, decide_eq_true hka, decide_eq_true hc]; rfl⟩
          · exact .inr ⟨hc, h2.1, by rw [← hE]; exact HG2.out, by rw [h1, decide_eq_false (show ¬ a < k2 by omega), Bool.and_false, Bool.false_or]⟩
        have STOP := Lib.hid stop
        clear stop
        by_cases hl2 : k2 < s.size
        · have m1 : decide ((k2 : Int) < (s.size : Int)) = true := decide_eq_true (by omega)
          have m2 : decide (k2 < s.size) = true := decide_eq_true hl2
          have mk : IntKind.i64.wrap ((k2 : Int) + 1) = k2 + 1 := IntWalk.i64_in _ (by omega)
          have HB2 : Hid (((s[k2]'hl2).toNat : Int) = bt s k2) := bt_in hl2
          by_cases h10 : ((s[k2]'hl2).toNat : Int) = 10
          · have HE3 : Hid (lineEnd s k = k2) := Lib.hid (by
              rw [← HE2.out]; exact runTo_stop (by rintro ⟨_, q⟩; unfold notLf at q; rw [← HB2.out, h10] at q; exact absurd q (by decide)))
            have n10 : (((s[k2]'hl2).toNat : Int) != 10) = false := by simpa using h10
            clear h10
            rcases STOP.out HE3.out with ⟨h1, h2⟩ | ⟨h1, h2, h3, h4⟩
            · have o1 : decide (a < k2) = true := decide_eq_true (by omega)
              have HD := Lib.hid h2
              clear h1 h2
              go_wp2
              go_ret
              exact ⟨by rw [HD.out]; rfl, rfl⟩
            · have o1 : decide (a < k2) = false := decide_eq_false (by omega)
              have H3 := Lib.hid h3
              have H4 := Lib.hid h4
              clear h3 h4
              go_wp2
              go_roundw
              case rel => exact ⟨k2, q', by omega, h1, rfl, by trivial, H3, H4⟩
              case measure => simp [intOf]; omega
          · have HE3 : Hid (lineEnd s (k2 + 1) = lineEnd s k) := Lib.hid (by
              rw [← HE2.out]; exact (runTo_step hl2 (by unfold notLf; rw [← HB2.out]; simpa using h10)).symm)
            have n10 : (((s[k2]'hl2).toNat : Int) != 10) = true := by simpa using h10
            clear h10
            go_wp2
            go_roundw
            case rel => exact ⟨k2 + 1, by omega, by omega, by go_num, by trivial, HE3⟩
            case measure => simp [intOf]; omega
        · have m1 : decide ((k2 : Int) < (s.size : Int)) = false := decide_eq_false (by omega)
          have HE3 : Hid (lineEnd s k = k2) := Lib.hid (by rw [← HE2.out]; exact runTo_stop (by omega))
          rcases STOP.out HE3.out with ⟨h1, h2⟩ | ⟨h1, h2, h3, h4⟩
          · have o1 : decide (a < k2) = true := decide_eq_true (by omega)
            have HD := Lib.hid h2
            clear h1 h2
            go_wp2
            go_ret
            exact ⟨by rw [HD.out]; rfl, rfl⟩
          · exfalso; omega
    · have h47 : bt s k = 47 ∧ bt s (k + 1) = 42 := by unfold isOpen at hop; simp only [Bool.and_eq_true, beq_iff_eq] at hop; exact hop
      have b42 : (((s[k]'hkl).toNat : Int) == 42) = false := by rw [HX.out, h47.1]; rfl
      have hc2 := comN_le s _ _ _ hcc
      have HCC := Lib.hid hcc
      have hk3 : k + 2 + 1 < s.size := by
        rcases Nat.lt_or_ge (k + 2 + 1) s.size with q | q
        · exact q
        · rw [com_none (by omega)] at hcc; cases hcc
      have HG2 := Lib.hid hg'
      have HQ : Hid (inSp q a = ((decide (k ≤ a) && decide (a < c)) || inSp q' a)) := Lib.hid (by rw [HI.out, hq', inSp_cons])
      clear hst hop hcc hq' hg' h47
      go_wp2_with (go_at_call 53; refine (hWh _).mono ?_; rintro e w' ⟨rfl, rfl⟩)
      go_loopw [8] (fun x w2 => ∃ e2 : Nat, k + 2 ≤ e2 ∧ e2 + 1 < s.size ∧ x = .int .i64 e2 ∧ w2 = w' ∧ Hid (comEnd s e2 = some c)) (fun x _ => s.size - (intOf x).toNat)
      case atStart => exact ⟨k + 2, Nat.le_refl _, by omega, by go_num, rfl, HCC⟩
      case round =>
        obtain ⟨e2, hke, he2, rfl, rfl, HE2⟩ := hrel
        clear hWh
        have mk : IntKind.i64.wrap ((e2 : Int) + 1) = e2 + 1 := IntWalk.i64_in _ (by omega)
        have mk2 : IntKind.i64.wrap ((e2 : Int) + 2) = e2 + 2 := IntWalk.i64_in _ (by omega)
        have hl3 : e2 < s.size := by omega
        have m2 : decide (e2 < s.size) = true := decide_eq_true hl3
        have m3 : decide (e2 + 1 < s.size) = true := decide_eq_true he2
        have HB2 : Hid (((s[e2]'hl3).toNat : Int) = bt s e2) := bt_in hl3
        have HB3 : Hid (((s[e2 + 1]'he2).toNat : Int) = bt s (e2 + 1)) := bt_in he2
        have on : ¬ (bt s e2 = 42 ∧ bt s (e2 + 1) = 47) → e2 + 2 < s.size ∧ comEnd s (e2 + 1) = some c := fun hne => by
          have h1 := com_on he2 hne
          rw [HE2.out] at h1
          have h2 := comN_le s _ _ _ h1.symm
          refine ⟨?_, h1.symm⟩
          rcases Nat.lt_or_ge (e2 + 2) s.size with q | q
          · exact q
          · rw [com_none (show ¬ e2 + 1 + 1 < s.size by omega)] at h1; cases h1
        have ON := Lib.hid on
        clear on
        by_cases h42 : ((s[e2]'hl3).toNat : Int) = 42
        · have n42 : (((s[e2]'hl3).toNat : Int) == 42) = true := beq_iff_eq.2 h42
          by_cases h47 : ((s[e2 + 1]'he2).toNat : Int) = 47
          · have n47 : (((s[e2 + 1]'he2).toNat : Int) == 47) = true := beq_iff_eq.2 h47
            have hce : c = e2 + 2 := by
              have h1 := com_at he2 ⟨HB2.out.symm.trans h42, HB3.out.symm.trans h47⟩
              rw [HE2.out] at h1
              exact Option.some.inj h1
            subst hce
            clear h42 h47
            rcases Nat.lt_or_ge a (e2 + 2) with hc | hc
            · have o1 : decide ((a : Int) < (e2 : Int) + 2) = true := decide_eq_true (by omega)
              have HD : Hid (inSp q a = true) := Lib.hid (by rw [HQ.out, decide_eq_true hka, decide_eq_true hc]; rfl)
              go_wp2
              go_ret
              exact ⟨by rw [HD.out]; rfl, rfl⟩
            · have o1 : decide ((a : Int) < (e2 : Int) + 2) = false := decide_eq_false (by omega)
              have HD : Hid (inSp q a = inSp q' a) := Lib.hid (by rw [HQ.out, decide_eq_false (show ¬ a < e2 + 2 by omega), Bool.and_false, Bool.false_or])
              go_wp2
              go_roundw
              case rel => exact ⟨e2 + 2, q', by omega, hc, by go_num, by trivial, HG2, HD⟩
              case measure => simp [intOf]; omega
          · have n47 : (((s[e2 + 1]'he2).toNat : Int) == 47) = false := beq_eq_false_iff_ne.2 h47
            obtain ⟨h1, h2⟩ := ON.out (by rintro ⟨_, q⟩; exact h47 (HB3.out.trans q))
            have H2 := Lib.hid h2
            clear h42 h47 h2
            go_wp2
            go_roundw
            case rel => exact ⟨e2 + 1, by omega, by omega, by go_num, by trivial, H2⟩
            case measure => simp [intOf]; omega
        · have n42 : (((s[e2]'hl3).toNat : Int) == 42) = false := beq_eq_false_iff_ne.2 h42
          obtain ⟨h1, h2⟩ := ON.out (by rintro ⟨q, _⟩; exact h42 (HB2.out.trans q))
          have H2 := Lib.hid h2
          clear h42 h2
          go_wp2
          go_roundw
          case rel => exact ⟨e2 + 1, by omega, by omega, by go_num, by trivial, H2⟩
          case measure => simp [intOf]; omega
end Go.Proofs.YtmapaagdaojpaaaGreatDoor
namespace Go.Proofs.YtmapaagdaojpaaaGreatDoor

theorem bt_extr {s : ByteArray} {i e j : Nat} (he : e ≤ s.size) (hj : i + j < e) : bt (s.extract i e) j = bt s (i + j) := by
  have hz : j < (s.extract i e).size := by rw [ByteArray.size_extract]; omega
  rw [← bt_in hz, ← bt_in (show i + j < s.size by omega), ByteArray.getElem_extract]
theorem extr_size {s : ByteArray} {i e : Nat} (he : e ≤ s.size) : (s.extract i e).size = e - i := by rw [ByteArray.size_extract]; omega
/-- All bytes of a longest run have its property. -/
theorem runTo_in (s : ByteArray) (p : Int → Bool) : ∀ (n i : Nat), s.size - i = n → ∀ j, i ≤ j → j < runTo s p i → p (bt s j) = true
  | 0, i, hn, j, h1, h2 => by rw [runTo_stop (by omega)] at h2; omega
  | n + 1, i, hn, j, h1, h2 => by
    by_cases hp : p (bt s i) = true
    · rw [runTo_step (by omega) hp] at h2
      by_cases e : j = i
      · rw [e]; exact hp
      · exact runTo_in s p n (i + 1) (by omega) j (by omega) h2
    · rw [runTo_stop (by rintro ⟨_, q⟩; exact hp q)] at h2; omega
/-- What clear comes to. -/
def clearR (s : ByteArray) (kind : Int) (i fin : Nat) (wrong : Int) : TokR := if chkB kind (s.extract i fin) = 0 then near s kind i fin else .bad wrong i
theorem chk_ok {kind : Int} {t : ByteArray} (h : okB kind t = true) : chkB kind t = 0 := by unfold chkB; rw [if_pos h]
theorem chk_no {kind : Int} {t : ByteArray} (h : okB kind t = false) : ¬ chkB kind t = 0 := by unfold chkB; rw [h]; decide
section
variable {s : ByteArray} {i : Nat} {R : TokR}
theorem tok_clear7 (h : tokN s i = R) (h36 : bt s i = 36) : clearR s 7 i (if cls (bt s (i + 1)).toNat = 2 then runTo s (inner dashes) (i + 1) else i + 1) 45 = R := by
  have := tok_word h h36
  generalize (if cls (bt s (i + 1)).toNat = 2 then runTo s (inner dashes) (i + 1) else i + 1) = E at this ⊢
  rw [← this]
  unfold clearR
  cases hk : isKeyB (s.extract i E) with
  | true => rw [if_pos (chk_ok (show okB 7 _ = true from hk)), if_pos rfl]
  | false => rw [if_neg (chk_no (show okB 7 _ = false from hk)), if_neg (by decide)]
theorem tok_clear4 (h : tokN s i = R) (hq : ¬ (bt s i = 39 ∨ bt s i = 34)) (h4 : ¬ cls (bt s i).toNat = 4) (hv : ¬ (steB (bt s i) = true ∧ bt s (i + 1) = 46)) (h2 : ¬ cls (bt s i).toNat = 2)
    (h3 : cls (bt s i).toNat = 3 ∨ (bt s i = 45 ∧ cls (bt s (i + 1)).toNat = 3)) : clearR s 4 i (digE s (i + 1)) 43 = R := by
  have := tok_num h hq h4 hv h2 h3
  rw [← this]
  unfold clearR
  cases hk : isNumB (s.extract i (digE s (i + 1))) with
  | true => rw [if_pos (chk_ok (show okB 4 _ = true from hk)), if_pos rfl]
  | false => rw [if_neg (chk_no (show okB 4 _ = false from hk)), if_neg (by decide)]
theorem tok_clear3 (hi : i < s.size) (h : tokN s i = R) (hq : ¬ (bt s i = 39 ∨ bt s i = 34)) (hv : ¬ (steB (bt s i) = true ∧ bt s (i + 1) = 46)) (h2 : cls (bt s i).toNat = 2) : clearR s 3 i (runTo s (inner dashes) i) 43 = R := by
  have := tok_name h hq hv h2
  rw [← this]
  have hin := runTo_in s (inner dashes) _ i rfl
  have hle := runTo_le s (inner dashes) i (by omega)
  have hstep : runTo s (inner dashes) i = runTo s (inner dashes) (i + 1) := by
    have hl := byte_all (s := s) (i := i) (fun c => !(cls c.toNat == 2) || (!(c == 39) && !(c == 34) && inner dashes c && inner none8 c)) cls_letter
    simp only [h2, beq_self_eq_true, Bool.not_true, Bool.false_or, Bool.and_eq_true, Bool.not_eq_true', beq_eq_false_iff_ne] at hl
    exact runTo_step hi hl.1.2
  have hle2 := runTo_le s (inner dashes) (i + 1) hi
  generalize runTo s (inner dashes) i = E at *
  have hz := extr_size (i := i) hle.2
  have hb0 : bt (s.extract i E) 0 = bt s i := by have := bt_extr (i := i) (j := 0) hle.2 (by omega); rwa [Nat.add_zero] at this
  have hrun : runTo (s.extract i E) (inner dashes) 1 = (s.extract i E).size := (runTo_all _ _ _ 1 rfl (by omega)).2 fun j h1 h2 => by
    rw [bt_extr hle.2 (by omega)]; exact hin (i + j) (by omega) (by omega)
  have hn : isNameB (s.extract i E) = decide (E ≤ i + 60) := by
    unfold isNameB
    rw [hb0, h2, hrun, hz, decide_eq_true (show E - i ≠ 0 by omega), Bool.eq_iff_iff]
    simp; omega
  unfold clearR
  by_cases hc : i + 60 < E
  · rw [if_pos hc, if_neg (chk_no (show okB 3 _ = false from hn.trans (decide_eq_false (by omega))))]
  · rw [if_neg hc, if_pos (chk_ok (show okB 3 _ = true from hn.trans (decide_eq_true (by omega))))]
theorem tok_clear5 (hi : i + 1 < s.size) (h : tokN s i = R) (hq : ¬ (bt s i = 39 ∨ bt s i = 34)) (h4 : ¬ cls (bt s i).toNat = 4) (hv : steB (bt s i) = true ∧ bt s (i + 1) = 46) : clearR s 5 i (runTo s (inner none8) (i + 2)) 43 = R := by
  have := tok_var h hq h4 hv
  rw [← this]
  have hin := runTo_in s (inner none8) _ (i + 2) rfl
  have hle := runTo_le s (inner none8) (i + 2) (by omega)
  generalize runTo s (inner none8) (i + 2) = E at *
  have hz := extr_size (i := i) hle.2
  have hb0 : bt (s.extract i E) 0 = bt s i := by have := bt_extr (i := i) (j := 0) hle.2 (by omega); rwa [Nat.add_zero] at this
  have hb1 : bt (s.extract i E) 1 = bt s (i + 1) := bt_extr (i := i) (j := 1) hle.2 (by omega)
  have hrun : runTo (s.extract i E) (inner none8) 2 = (s.extract i E).size := (runTo_all _ _ _ 2 rfl (by omega)).2 fun j h1 h2 => by
    rw [bt_extr hle.2 (by omega)]; exact hin (i + j) (by omega) (by omega)
  have hn : isVarB (s.extract i E) = decide (i + 3 ≤ E ∧ E ≤ i + 42) := by
    unfold isVarB
    rw [hb0, hb1, hv.1, hv.2, hrun, hz, Bool.eq_iff_iff]
    simp; omega
  unfold clearR
  by_cases hc : E < i + 3 ∨ i + 42 < E
  · rw [if_pos hc, if_neg (chk_no (show okB 5 _ = false from hn.trans (decide_eq_false (by omega))))]
  · rw [if_neg hc, if_pos (chk_ok (show okB 5 _ = true from hn.trans (decide_eq_true (by omega))))]
end
/-- What a word's quotation holds. -/
theorem quo_words (s : ByteArray) : ∀ (n i : Nat) (out out' : List UInt8) (fin : Nat), quoN s 34 n i out = .ok out' fin → (∀ b ∈ out, wordP b.toNat = true) → ∀ b ∈ out', wordP b.toNat = true
  | 0, i, out, out', fin, h, _ => by simp [quoN] at h
  | n + 1, i, out, out', fin, h, ho => by
    unfold quoN at h
    split at h
    · cases h; exact ho
    · split at h
      · cases h
      · rename_i hb
        split at h
        · refine quo_words s n _ _ _ _ h fun b hm => ?_
          rcases List.mem_append.1 hm with q | q
          · exact ho b q
          · rw [List.mem_singleton.1 q, ← bt_bu]
            unfold wordP
            simp only [Bool.and_eq_true, decide_eq_true_eq]; omega
        · split at h
          · rename_i m he
            refine quo_words s n _ _ _ _ h fun b hm => ?_
            rcases List.mem_append.1 hm with q | q
            · exact ho b q
            · rw [List.mem_singleton.1 q]
              unfold escF at he
              rw [if_pos rfl] at he
              split at he
              · cases he; decide
              · split at he
                · cases he; decide
                · cases he
          · rw [if_pos (.inl rfl)] at h; cases h
theorem quo_isWord {s : ByteArray} {n i fin : Nat} {out : List UInt8} (h : quoN s 34 n i [] = .ok out fin) : isWordB ⟨out.toArray⟩ = decide (¬ (out.length < 1 ∨ 60 < out.length)) := by
  have hw := quo_words s _ _ _ _ _ h (fun b hm => by cases hm)
  have hz : (⟨out.toArray⟩ : ByteArray).size = out.length := List.size_toArray ..
  have hrun : runTo ⟨out.toArray⟩ wordP 0 = (⟨out.toArray⟩ : ByteArray).size := (runTo_all _ _ _ 0 rfl (Nat.zero_le _)).2 ((bt_mem _ wordP).1 hw)
  unfold isWordB
  rw [hrun, hz, Bool.eq_iff_iff]
  simp
end Go.Proofs.YtmapaagdaojpaaaGreatDoor
