/- Plain definitions: white space and comments of a text; how strings.IndexByte and strings.Index find their ends. -/
import Derived.Test.YtmapaagdaojpaaaGreatDoorPure
import Derived.Lib.Strings
namespace Go.Proofs.YtmapaagdaojpaaaGreatDoor

theorem drop_cons {s : ByteArray} {i : Nat} (h : i < s.size) : s.data.toList.drop i = (s[i]'h) :: s.data.toList.drop (i + 1) := by
  rw [List.drop_eq_getElem_cons (by simpa using h)]
  rfl
theorem drop_end {s : ByteArray} {i : Nat} (h : s.size ≤ i) : s.data.toList.drop i = [] := List.drop_eq_nil_of_le (by simpa using h)
theorem u8_eq (c : UInt8) (n : Nat) (h : n < 256) : c = n.toUInt8 ↔ (c.toNat : Int) = n := by
  constructor
  · rintro rfl; simp [Nat.mod_eq_of_lt h]
  · intro e; apply UInt8.toNat_inj.1; simp [Nat.mod_eq_of_lt h]; omega
/-- The end of a line. -/
def notLf (c : Int) : Bool := !(c == 10)
def lineEnd (s : ByteArray) (at_ : Nat) : Nat := runTo s notLf at_
theorem lineEnd_ix (s : ByteArray) : ∀ (n i : Nat), s.size - i = n → (Lib.indexByte (s.data.toList.drop i) 10 < 0 → i ≤ s.size → lineEnd s i = s.size) ∧ (0 ≤ Lib.indexByte (s.data.toList.drop i) 10 → (lineEnd s i : Int) = i + Lib.indexByte (s.data.toList.drop i) 10)
  | 0, i, h => by
    rw [drop_end (by omega)]
    simp only [Lib.indexByte]
    refine ⟨fun _ h2 => ?_, fun h => by omega⟩
    unfold lineEnd
    rw [runTo_stop (by omega)]; omega
  | n + 1, i, h => by
    have hi : i < s.size := by omega
    have ih := lineEnd_ix s n (i + 1) (by omega)
    rw [drop_cons hi]
    simp only [Lib.indexByte]
    have hge := Lib.indexByte_ge (s.data.toList.drop (i + 1)) 10
    by_cases hc : (s[i]'hi) = 10
    · have hb : bt s i = 10 := by rw [← bt_in hi, hc]; rfl
      simp only [hc, beq_self_eq_true, if_true]
      refine ⟨fun h => by omega, fun _ => ?_⟩
      unfold lineEnd
      rw [runTo_stop (by rintro ⟨_, q⟩; rw [hb] at q; cases q)]; omega
    · have hb : notLf (bt s i) = true := by
        unfold notLf
        rw [← bt_in hi]
        have := mt (u8_eq (s[i]'hi) 10 (by omega)).2 (fun e => hc e)
        simp at this ⊢; omega
      have hs : lineEnd s i = lineEnd s (i + 1) := runTo_step hi hb
      rw [if_neg (by simpa using hc), hs]
      by_cases hm : Lib.indexByte (s.data.toList.drop (i + 1)) 10 = -1
      · rw [hm]; simp only [beq_self_eq_true, if_true]
        exact ⟨fun _ _ => ih.1 (by omega) (by omega), fun h => by omega⟩
      · rw [if_neg (by simpa using hm)]
        exact ⟨fun h => by omega, fun _ => by rw [ih.2 (by omega)]; omega⟩

/-- The place behind the end of a comment. -/
def comN (s : ByteArray) : Nat → Nat → Option Nat
  | 0, _ => none
  | n + 1, i => if i + 1 < s.size then (if bt s i = 42 ∧ bt s (i + 1) = 47 then some (i + 2) else comN s n (i + 1)) else none
def comEnd (s : ByteArray) (i : Nat) : Option Nat := comN s (s.size - i) i
theorem comEnd_ix (s : ByteArray) : ∀ (n i : Nat), s.size - i = n → (Lib.index (s.data.toList.drop i) [42, 47] < 0 → comN s n i = none) ∧ (0 ≤ Lib.index (s.data.toList.drop i) [42, 47] → comN s n i = some (i + (Lib.index (s.data.toList.drop i) [42, 47]).toNat + 2) ∧ i + (Lib.index (s.data.toList.drop i) [42, 47]).toNat + 2 ≤ s.size)
  | 0, i, h => by
    rw [drop_end (by omega)]
    simp [Lib.index, comN]
  | n + 1, i, h => by
    have hi : i < s.size := by omega
    have ih := comEnd_ix s n (i + 1) (by omega)
    have hge := Lib.index_ge (s.data.toList.drop (i + 1)) [42, 47]
    rw [drop_cons hi]
    simp only [Lib.index]
    by_cases h1 : i + 1 < s.size
    · have hp : List.isPrefixOf [42, 47] ((s[i]'hi) :: s.data.toList.drop (i + 1)) = decide (bt s i = 42 ∧ bt s (i + 1) = 47) := by
        rw [drop_cons h1, ← bt_in hi, ← bt_in h1]
        have e1 := u8_eq (s[i]'hi) 42 (by omega)
        have e2 := u8_eq (s[i + 1]'h1) 47 (by omega)
        rw [Bool.eq_iff_iff]
        simp only [List.isPrefixOf, Bool.and_true, Bool.and_eq_true, beq_iff_eq, decide_eq_true_eq]
        exact and_congr (eq_comm.trans e1) (eq_comm.trans e2)
      rw [hp]
      by_cases hb : bt s i = 42 ∧ bt s (i + 1) = 47
      · rw [decide_eq_true hb]
        simp only [if_true, comN, if_pos h1, if_pos hb]
        exact ⟨fun h => by omega, fun _ => ⟨by simp, by simp; omega⟩⟩
      · rw [decide_eq_false hb]
        simp only [Bool.false_eq_true, if_false, comN, if_pos h1, if_neg hb]
        by_cases hm : Lib.index (s.data.toList.drop (i + 1)) [42, 47] = -1
        · rw [hm]; simp only [beq_self_eq_true, if_true]
          exact ⟨fun _ => ih.1 (by omega), fun h => by omega⟩
        · rw [if_neg (by simpa using hm)]
          refine ⟨fun h => by omega, fun _ => ?_⟩
          obtain ⟨a, b⟩ := ih.2 (by omega)
          rw [a]
          exact ⟨by congr 1; omega, by omega⟩
    · rw [drop_end (by omega)]
      have hp : List.isPrefixOf [42, 47] [s[i]'hi] = false := by simp [List.isPrefixOf]
      rw [hp]
      simp [Lib.index, comN, h1]

/-- What skip comes to: an unfinished comment at a place, or the place behind white space and comments, and these. -/
inductive SkipR where
  | err (at_ : Nat)
  | ok (at_ : Nat) (sp : List (Nat × Nat))
def isStar (s : ByteArray) (i : Nat) : Bool := (bt s i == 42) && (decide (i = 0) || (bt s (i - 1) == 10))
def isOpen (s : ByteArray) (i : Nat) : Bool := (bt s i == 47) && (bt s (i + 1) == 42)
def skipN (s : ByteArray) : Nat → Nat → List (Nat × Nat) → SkipR
  | 0, i, sp => .ok i sp
  | n + 1, i, sp =>
    if i < s.size then
      if cls (bt s i).toNat = 1 then skipN s n (i + 1) sp
      else if isStar s i = true then skipN s n (lineEnd s i) (sp ++ [(i, lineEnd s i)])
      else if isOpen s i = true then
        match comEnd s (i + 2) with
        | none => .err i
        | some e => skipN s n e (sp ++ [(i, e)])
      else .ok i sp
    else .ok i sp
end Go.Proofs.YtmapaagdaojpaaaGreatDoor
