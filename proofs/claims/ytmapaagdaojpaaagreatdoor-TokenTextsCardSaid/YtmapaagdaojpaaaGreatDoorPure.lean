/- Plain definitions: bytes of a text, their classes, the longest runs. No program is in sight. -/
import Derived.Lib.Bytealg
import Derived.Lib.Index
namespace Go.Proofs.YtmapaagdaojpaaaGreatDoor

/-- The class of a byte. -/
def cls (c : Nat) : Int :=
  if c = 32 ∨ c = 9 ∨ c = 10 ∨ c = 13 then 1
  else if 97 ≤ c ∧ c ≤ 122 ∨ 65 ≤ c ∧ c ≤ 90 then 2
  else if 48 ≤ c ∧ c ≤ 57 then 3
  else if c = 40 ∨ c = 41 ∨ c = 60 ∨ c = 62 ∨ c = 123 ∨ c = 125 ∨ c = 61 ∨ c = 44 ∨ c = 58 ∨ c = 59 then 4 else 0
/-- Byte i of a text; 0 behind its end. -/
def bt (s : ByteArray) (i : Nat) : Int := if h : i < s.size then (s[i].toNat : Int) else 0
theorem bt_in {s : ByteArray} {i : Nat} (h : i < s.size) : ((s[i]'h).toNat : Int) = bt s i := by unfold bt; rw [dif_pos h]
theorem bt_out {s : ByteArray} {i : Nat} (h : s.size ≤ i) : bt s i = 0 := by unfold bt; rw [dif_neg (by omega)]
theorem bt_lo (s : ByteArray) (i : Nat) : 0 ≤ bt s i := by unfold bt; split <;> omega
theorem bt_hi (s : ByteArray) (i : Nat) : bt s i ≤ 255 := by
  unfold bt
  split
  · have := (s[i]).toNat_lt; omega
  · omega

/-- The value of a hexadecimal digit. -/
def hexv (c : Int) : Option Int :=
  if 48 ≤ c ∧ c ≤ 57 then some (c - 48) else if 97 ≤ c ∧ c ≤ 102 then some (c - 87) else if 65 ≤ c ∧ c ≤ 70 then some (c - 55) else none

/-- The place behind the longest run of bytes with p from place i on, n steps at most. -/
def runN (s : ByteArray) (p : Int → Bool) : Nat → Nat → Nat
  | 0, i => i
  | n + 1, i => if i < s.size ∧ p (bt s i) = true then runN s p n (i + 1) else i
def runTo (s : ByteArray) (p : Int → Bool) (i : Nat) : Nat := runN s p (s.size - i) i
theorem runTo_step {s : ByteArray} {p : Int → Bool} {i : Nat} (h : i < s.size) (hp : p (bt s i) = true) : runTo s p i = runTo s p (i + 1) := by
  unfold runTo
  rw [show s.size - i = (s.size - (i + 1)) + 1 by omega, runN, if_pos ⟨h, hp⟩]
theorem runTo_stop {s : ByteArray} {p : Int → Bool} {i : Nat} (h : ¬ (i < s.size ∧ p (bt s i) = true)) : runTo s p i = i := by
  unfold runTo
  cases s.size - i <;> simp [runN, h]
theorem runN_le (s : ByteArray) (p : Int → Bool) : ∀ n i, i + n ≤ s.size → i ≤ runN s p n i ∧ runN s p n i ≤ s.size
  | 0, i, h => ⟨Nat.le_refl _, by simpa [runN] using h⟩
  | n + 1, i, h => by
    unfold runN
    split
    · have := runN_le s p n (i + 1) (by omega); exact ⟨by omega, this.2⟩
    · exact ⟨Nat.le_refl _, by omega⟩
theorem runTo_le (s : ByteArray) (p : Int → Bool) (i : Nat) (h : i ≤ s.size) : i ≤ runTo s p i ∧ runTo s p i ≤ s.size := runN_le s p _ i (by omega)

/-- A byte of an identifier: a letter, a digit, or one of some more. -/
def inner (more : ByteArray) (c : Int) : Bool := cls c.toNat == 2 || cls c.toNat == 3 || decide (0 ≤ Lib.indexByte more.data.toList c.toNat.toUInt8)
def dashes : ByteArray := ⟨#[45, 95]⟩
def none8 : ByteArray := ⟨#[]⟩
/-- Is a text an identifier of at most 60 bytes? -/
def isNameB (s : ByteArray) : Bool := decide (s.size ≠ 0) && decide (s.size ≤ 60) && (cls (bt s 0).toNat == 2) && decide (runTo s (inner dashes) 1 = s.size)
/-- Is a byte one of s, t, e? -/
def steB (c : Int) : Bool := c == 115 || c == 116 || c == 101
/-- Is a text the name of a variable? -/
def isVarB (s : ByteArray) : Bool := decide (3 ≤ s.size) && decide (s.size ≤ 42) && steB (bt s 0) && (bt s 1 == 46) && decide (runTo s (inner none8) 2 = s.size)
def isKeyB (s : ByteArray) : Bool := s.toList == [36, 69, 78, 84, 82, 89] || s.toList == [36, 69, 88, 84, 69, 82, 78]
end Go.Proofs.YtmapaagdaojpaaaGreatDoor
