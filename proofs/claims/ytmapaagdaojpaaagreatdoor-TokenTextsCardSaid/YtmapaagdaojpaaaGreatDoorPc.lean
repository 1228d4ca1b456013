/- Plain definitions: quotations. -/
import Derived.Test.YtmapaagdaojpaaaGreatDoorPure
namespace Go.Proofs.YtmapaagdaojpaaaGreatDoor

def bu (s : ByteArray) (i : Nat) : UInt8 := if h : i < s.size then s[i] else 0
theorem bt_bu (s : ByteArray) (i : Nat) : bt s i = (bu s i).toNat := by
  unfold bt bu; split <;> rfl
/-- What a byte behind a backslash means. -/
def escF (mark c : Int) : Option Int :=
  if mark = 34 then (if c = 92 then some 92 else if c = 34 then some 34 else none)
  else (if c = 92 then some 92 else if c = 39 then some 39 else if c = 110 then some 10 else if c = 116 then some 9 else none)
def hex2 (h l : Int) : UInt8 := (16 * h + l).toNat.toUInt8
/-- What a quotation comes to: a fault, or its bytes and the place behind it. -/
inductive QuoR where
  | bad
  | ok (out : List UInt8) (fin : Nat)
def quoN (s : ByteArray) (mark : Int) : Nat → Nat → List UInt8 → QuoR
  | 0, _, _ => .bad
  | n + 1, i, out =>
    if bt s i = mark then .ok out (i + 1)
    else if s.size ≤ i ∨ bt s i < 32 ∨ 126 < bt s i then .bad
    else if bt s i ≠ 92 then quoN s mark n (i + 1) (out ++ [bu s i])
    else match escF mark (bt s (i + 1)) with
      | some m => quoN s mark n (i + 2) (out ++ [m.toNat.toUInt8])
      | none =>
        if mark = 34 ∨ bt s (i + 1) ≠ 120 then .bad
        else match hexv (bt s (i + 2)), hexv (bt s (i + 3)) with
          | some h, some l => quoN s mark n (i + 4) (out ++ [hex2 h l])
          | _, _ => .bad
section
variable {s : ByteArray} {mark : Int} {n i : Nat} {out : List UInt8} {R : QuoR}
theorem quo_end (h : quoN s mark (n + 1) i out = R) (hm : bt s i = mark) : R = .ok out (i + 1) := by
  rw [quoN, if_pos hm] at h; exact h.symm
theorem quo_bad (h : quoN s mark (n + 1) i out = R) (hm : ¬ bt s i = mark) (hb : s.size ≤ i ∨ bt s i < 32 ∨ 126 < bt s i) : R = .bad := by
  rw [quoN, if_neg hm, if_pos hb] at h; exact h.symm
theorem quo_plain (h : quoN s mark (n + 1) i out = R) (hm : ¬ bt s i = mark) (hb : ¬ (s.size ≤ i ∨ bt s i < 32 ∨ 126 < bt s i)) (h92 : ¬ bt s i = 92) : quoN s mark n (i + 1) (out ++ [bu s i]) = R := by
  rwa [quoN, if_neg hm, if_neg hb, if_pos h92] at h
theorem quo_esc {m : Int} (h : quoN s mark (n + 1) i out = R) (hm : ¬ bt s i = mark) (hb : ¬ (s.size ≤ i ∨ bt s i < 32 ∨ 126 < bt s i)) (h92 : bt s i = 92) (he : escF mark (bt s (i + 1)) = some m) :
    quoN s mark n (i + 2) (out ++ [m.toNat.toUInt8]) = R := by
  rwa [quoN, if_neg hm, if_neg hb, if_neg (by simp [h92]), he] at h
theorem quo_noesc (h : quoN s mark (n + 1) i out = R) (hm : ¬ bt s i = mark) (hb : ¬ (s.size ≤ i ∨ bt s i < 32 ∨ 126 < bt s i)) (h92 : bt s i = 92) (he : escF mark (bt s (i + 1)) = none)
    (hx : mark = 34 ∨ ¬ bt s (i + 1) = 120 ∨ hexv (bt s (i + 2)) = none ∨ hexv (bt s (i + 3)) = none) : R = .bad := by
  rw [quoN, if_neg hm, if_neg hb, if_neg (by simp [h92]), he] at h
  dsimp only at h
  split at h
  · exact h.symm
  · rename_i hn
    rcases hx with hx | hx | hx | hx
    · exact absurd (.inl hx) hn
    · exact absurd (.inr hx) hn
    · rw [hx] at h; exact h.symm
    · rw [hx] at h
      generalize hexv (bt s (i + 2)) = q at h
      cases q <;> exact h.symm
theorem quo_hex {a b : Int} (h : quoN s mark (n + 1) i out = R) (hm : ¬ bt s i = mark) (hb : ¬ (s.size ≤ i ∨ bt s i < 32 ∨ 126 < bt s i)) (h92 : bt s i = 92) (he : escF mark (bt s (i + 1)) = none)
    (h34 : ¬ mark = 34) (h120 : bt s (i + 1) = 120) (ha : hexv (bt s (i + 2)) = some a) (hb2 : hexv (bt s (i + 3)) = some b) : quoN s mark n (i + 4) (out ++ [hex2 a b]) = R := by
  rw [quoN, if_neg hm, if_neg hb, if_neg (by simp [h92]), he] at h
  dsimp only at h
  rwa [if_neg (by simp [h34, h120]), ha, hb2] at h
end
theorem hexv_lo {c v : Int} (h : hexv c = some v) : 0 ≤ v ∧ v ≤ 15 := by
  unfold hexv at h
  repeat' split at h
  all_goals first | (cases h; omega) | cases h
theorem hexv_in {c v : Int} (h : hexv c = some v) : ¬ c = 0 := by
  unfold hexv at h
  repeat' split at h
  all_goals first | omega | cases h
theorem escF_in {mark c m : Int} (h : escF mark c = some m) : ¬ c = 0 ∧ 0 ≤ m ∧ m ≤ 92 := by
  unfold escF at h
  repeat' split at h
  all_goals first | (cases h; omega) | cases h
end Go.Proofs.YtmapaagdaojpaaaGreatDoor
