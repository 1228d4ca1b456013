/- Plain definitions: bytes of a text, their classes, the longest runs. No program is in sight. Plain definitions: white space and comments of a text; how strings.IndexByte and strings.Index find their ends. Plain definitions: quotations. Plain definitions: the texts of numbers. Plain definitions: one token. Plain definitions: the tokens of a text. Plain law: the tokens of a text up to one of them are those of the text up to its place. Plain law: places ascend; a token's text begins at its place; a text without its comments has the same tokens. -/
import Derived.Lib.Bytealg
import Derived.Lib.Index
import Derived.Lib.Strings
import Derived.Lib.SlTrimSet
namespace Go.Proofs.YtmapaagdaojpaaaGreatDoor

/-- The class of a byte. -/
def cls (c : Nat) : Int :=
  if c = 32 ∨ c = 9 ∨ c = 10 ∨ c = 13 then 1
  else if 97 ≤ c ∧ c ≤ 122 ∨ 65 ≤ c ∧ c ≤ 90 then 2
  else if 48 ≤ c ∧ c ≤ 57 then 3
  else if c = 40 ∨ c = 41 ∨ c = 60 ∨ c = 62 ∨ c = 123 ∨ c = 125 ∨ c = 61 ∨ c = 44 ∨ c = 58 ∨ c = 59 then 4 else 0
/-- Byte i of a text; 0 behind its end. -/
def bt (s : ByteArray) (i : Nat) : Int := if h : i < s.size then (s[i].toNat : Int) else 0
theorem bt_in {s : ByteArray} {i : Nat} (h : i < s.size) : ((s[i]'h).toNat : Int) = bt s i := by unfold bt; rw [dif_pos h]
theorem bt_out {s : ByteArray} {i : Nat} (h : s.size ≤ i) : bt s i = 0 := by unfold bt; rw [dif_neg (by omega)]
theorem bt_lo (s : ByteArray) (i : Nat) : 0 ≤ bt s i := by unfold bt; split <;> omega
theorem bt_hi (s : ByteArray) (i : Nat) : bt s i ≤ 255 := by
  unfold bt
  split
  · have := (s[i]).toNat_lt; omega
  · omega

/-- The value of a hexadecimal digit. -/
def hexv (c : Int) : Option Int :=
  if 48 ≤ c ∧ c ≤ 57 then some (c - 48) else if 97 ≤ c ∧ c ≤ 102 then some (c - 87) else if 65 ≤ c ∧ c ≤ 70 then some (c - 55) else none

/-- The place behind the longest run of bytes with p from place i on, n steps at most. -/
def runN (s : ByteArray) (p : Int → Bool) : Nat → Nat → Nat
  | 0, i => i
  | n + 1, i => if i < s.size ∧ p (bt s i) = true then runN s p n (i + 1) else i
def runTo (s : ByteArray) (p : Int → Bool) (i : Nat) : Nat := runN s p (s.size - i) i
theorem runTo_step {s : ByteArray} {p : Int → Bool} {i : Nat} (h : i < s.size) (hp : p (bt s i) = true) : runTo s p i = runTo s p (i + 1) := by
  unfold runTo
  rw [show s.size - i = (s.size - (i + 1)) + 1 by omega, runN, if_pos ⟨h, hp⟩]
theorem runTo_stop {s : ByteArray} {p : Int → Bool} {i : Nat} (h : ¬ (i < s.size ∧ p (bt s i) = true)) : runTo s p i = i := by
  unfold runTo
  cases s.size - i <;> simp [runN, h]
theorem runN_le (s : ByteArray) (p : Int → Bool) : ∀ n i, i + n ≤ s.size → i ≤ runN s p n i ∧ runN s p n i ≤ s.size
  | 0, i, h => ⟨Nat.le_refl _, by simpa [runN] using h⟩
  | n + 1, i, h => by
    unfold runN
    split
    · have := runN_le s p n (i + 1) (by omega); exact ⟨by omega, this.2⟩
    · exact ⟨Nat.le_refl _, by omega⟩
theorem runTo_le (s : ByteArray) (p : Int → Bool) (i : Nat) (h : i ≤ s.size) : i ≤ runTo s p i ∧ runTo s p i ≤ s.size := runN_le s p _ i (by omega)

/-- A byte of an identifier: a letter, a digit, or one of some more. -/
def inner (more : ByteArray) (c : Int) : Bool := cls c.toNat == 2 || cls c.toNat == 3 || decide (0 ≤ Lib.indexByte more.data.toList c.toNat.toUInt8)
def dashes : ByteArray := ⟨#[45, 95]⟩
def none8 : ByteArray := ⟨#[]⟩
/-- Is a text an identifier of at most 60 bytes? -/
def isNameB (s : ByteArray) : Bool := decide (s.size ≠ 0) && decide (s.size ≤ 60) && (cls (bt s 0).toNat == 2) && decide (runTo s (inner dashes) 1 = s.size)
/-- Is a byte one of s, t, e? -/
def steB (c : Int) : Bool := c == 115 || c == 116 || c == 101
/-- Is a text the name of a variable? -/
def isVarB (s : ByteArray) : Bool := decide (3 ≤ s.size) && decide (s.size ≤ 42) && steB (bt s 0) && (bt s 1 == 46) && decide (runTo s (inner none8) 2 = s.size)
def isKeyB (s : ByteArray) : Bool := s.toList == [36, 69, 78, 84, 82, 89] || s.toList == [36, 69, 88, 84, 69, 82, 78]
end Go.Proofs.YtmapaagdaojpaaaGreatDoor
namespace Go.Proofs.YtmapaagdaojpaaaGreatDoor

theorem drop_cons {s : ByteArray} {i : Nat} (h : i < s.size) : s.data.toList.drop i = (s[i]'h) :: s.data.toList.drop (i + 1) := by
  rw [List.drop_eq_getElem_cons (by simpa using h)]
  rfl
theorem drop_end {s : ByteArray} {i : Nat} (h : s.size ≤ i) : s.data.toList.drop i = [] := List.drop_eq_nil_of_le (by simpa using h)
theorem u8_eq (c : UInt8) (n : Nat) (h : n < 256) : c = n.toUInt8 ↔ (c.toNat : Int) = n := by
  constructor
  · rintro rfl; simp [Nat.mod_eq_of_lt h]
  · intro e; apply UInt8.toNat_inj.1; simp [Nat.mod_eq_of_lt h]; omega
/-- The end of a line. -/
def notLf (c : Int) : Bool := !(c == 10)
def lineEnd (s : ByteArray) (at_ : Nat) : Nat := runTo s notLf at_
theorem lineEnd_ix (s : ByteArray) : ∀ (n i : Nat), s.size - i = n → (Lib.indexByte (s.data.toList.drop i) 10 < 0 → i ≤ s.size → lineEnd s i = s.size) ∧ (0 ≤ Lib.indexByte (s.data.toList.drop i) 10 → (lineEnd s i : Int) = i + Lib.indexByte (s.data.toList.drop i) 10)
  | 0, i, h => by
    rw [drop_end (by omega)]
    simp only [Lib.indexByte]
    refine ⟨fun _ h2 => ?_, fun h => by omega⟩
    unfold lineEnd
    rw [runTo_stop (by omega)]; omega
  | n + 1, i, h => by
    have hi : i < s.size := by omega
    have ih := lineEnd_ix s n (i + 1) (by omega)
    rw [drop_cons hi]
    simp only [Lib.indexByte]
    have hge := Lib.indexByte_ge (s.data.toList.drop (i + 1)) 10
    by_cases hc : (s[i]'hi) = 10
    · have hb : bt s i = 10 := by rw [← bt_in hi, hc]; rfl
      simp only [hc, beq_self_eq_true, if_true]
      refine ⟨fun h => by omega, fun _ => ?_⟩
      unfold lineEnd
      rw [runTo_stop (by rintro ⟨_, q⟩; rw [hb] at q; cases q)]; omega
    · have hb : notLf (bt s i) = true := by
        unfold notLf
        rw [← bt_in hi]
        have := mt (u8_eq (s[i]'hi) 10 (by omega)).2 (fun e => hc e)
        simp at this ⊢; omega
      have hs : lineEnd s i = lineEnd s (i + 1) := runTo_step hi hb
      rw [if_neg (by simpa using hc), hs]
      by_cases hm : Lib.indexByte (s.data.toList.drop (i + 1)) 10 = -1
      · rw [hm]; simp only [beq_self_eq_true, if_true]
        exact ⟨fun _ _ => ih.1 (by omega) (by omega), fun h => by omega⟩
      · rw [if_neg (by simpa using hm)]
        exact ⟨fun h => by omega, fun _ => by rw [ih.2 (by omega)]; omega⟩

/-- The place behind the end of a comment. -/
def comN (s : ByteArray) : Nat → Nat → Option Nat
  | 0, _ => none
  | n + 1, i => if i + 1 < s.size then (if bt s i = 42 ∧ bt s (i + 1) = 47 then some (i + 2) else comN s n (i + 1)) else none
def comEnd (s : ByteArray) (i : Nat) : Option Nat := comN s (s.size - i) i
theorem comEnd_ix (s : ByteArray) : ∀ (n i : Nat), s.size - i = n → (Lib.index (s.data.toList.drop i) [42, 47] < 0 → comN s n i = none) ∧ (0 ≤ Lib.index (s.data.toList.drop i) [42, 47] → comN s n i = some (i + (Lib.index (s.data.toList.drop i) [42, 47]).toNat + 2) ∧ i + (Lib.index (s.data.toList.drop i) [42, 47]).toNat + 2 ≤ s.size)
  | 0, i, h => by
    rw [drop_end (by omega)]
    simp [Lib.index, comN]
  | n + 1, i, h => by
    have hi : i < s.size := by omega
    have ih := comEnd_ix s n (i + 1) (by omega)
    have hge := Lib.index_ge (s.data.toList.drop (i + 1)) [42, 47]
    rw [drop_cons hi]
    simp only [Lib.index]
    by_cases h1 : i + 1 < s.size
    · have hp : List.isPrefixOf [42, 47] ((s[i]'hi) :: s.data.toList.drop (i + 1)) = decide (bt s i = 42 ∧ bt s (i + 1) = 47) := by
        rw [drop_cons h1, ← bt_in hi, ← bt_in h1]
        have e1 := u8_eq (s[i]'hi) 42 (by omega)
        have e2 := u8_eq (s[i + 1]'h1) 47 (by omega)
        rw [Bool.eq_iff_iff]
        simp only [List.isPrefixOf, Bool.and_true, Bool.and_eq_true, beq_iff_eq, decide_eq_true_eq]
        exact and_congr (eq_comm.trans e1) (eq_comm.trans e2)
      rw [hp]
      by_cases hb : bt s i = 42 ∧ bt s (i + 1) = 47
      · rw [decide_eq_true hb]
        simp only [if_true, comN, if_pos h1, if_pos hb]
        exact ⟨fun h => by omega, fun _ => ⟨by simp, by simp; omega⟩⟩
      · rw [decide_eq_false hb]
        simp only [Bool.false_eq_true, if_false, comN, if_pos h1, if_neg hb]
        by_cases hm : Lib.index (s.data.toList.drop (i + 1)) [42, 47] = -1
        · rw [hm]; simp only [beq_self_eq_true, if_true]
          exact ⟨fun _ => ih.1 (by omega), fun h => by omega⟩
        · rw [if_neg (by simpa using hm)]
          refine ⟨fun h => by omega, fun _ => ?_⟩
          obtain ⟨a, b⟩ := ih.2 (by omega)
          rw [a]
          exact ⟨by congr 1; omega, by omega⟩
    · rw [drop_end (by omega)]
      have hp : List.isPrefixOf [42, 47] [s[i]'hi] = false := by simp [List.isPrefixOf]
      rw [hp]
      simp [Lib.index, comN, h1]

/-- What skip comes to: an unfinished comment at a place, or the place behind white space and comments, and these. -/
inductive SkipR where
  | err (at_ : Nat)
  | ok (at_ : Nat) (sp : List (Nat × Nat))
def isStar (s : ByteArray) (i : Nat) : Bool := (bt s i == 42) && (decide (i = 0) || (bt s (i - 1) == 10))
def isOpen (s : ByteArray) (i : Nat) : Bool := (bt s i == 47) && (bt s (i + 1) == 42)
def skipN (s : ByteArray) : Nat → Nat → List (Nat × Nat) → SkipR
  | 0, i, sp => .ok i sp
  | n + 1, i, sp =>
    if i < s.size then
      if cls (bt s i).toNat = 1 then skipN s n (i + 1) sp
      else if isStar s i = true then skipN s n (lineEnd s i) (sp ++ [(i, lineEnd s i)])
      else if isOpen s i = true then
        match comEnd s (i + 2) with
        | none => .err i
        | some e => skipN s n e (sp ++ [(i, e)])
      else .ok i sp
    else .ok i sp
end Go.Proofs.YtmapaagdaojpaaaGreatDoor
namespace Go.Proofs.YtmapaagdaojpaaaGreatDoor

def bu (s : ByteArray) (i : Nat) : UInt8 := if h : i < s.size then s[i] else 0
theorem bt_bu (s : ByteArray) (i : Nat) : bt s i = (bu s i).toNat := by
  unfold bt bu; split <;> rfl
/-- What a byte behind a backslash means. -/
def escF (mark c : Int) : Option Int :=
  if mark = 34 then (if c = 92 then some 92 else if c = 34 then some 34 else none)
  else (if c = 92 then some 92 else if c = 39 then some 39 else if c = 110 then some 10 else if c = 116 then some 9 else none)
def hex2 (h l : Int) : UInt8 := (16 * h + l).toNat.toUInt8
/-- What a quotation comes to: a fault, or its bytes and the place behind it. -/
inductive QuoR where
  | bad
  | ok (out : List UInt8) (fin : Nat)
def quoN (s : ByteArray) (mark : Int) : Nat → Nat → List UInt8 → QuoR
  | 0, _, _ => .bad
  | n + 1, i, out =>
    if bt s i = mark then .ok out (i + 1)
    else if s.size ≤ i ∨ bt s i < 32 ∨ 126 < bt s i then .bad
    else if bt s i ≠ 92 then quoN s mark n (i + 1) (out ++ [bu s i])
    else match escF mark (bt s (i + 1)) with
      | some m => quoN s mark n (i + 2) (out ++ [m.toNat.toUInt8])
      | none =>
        if mark = 34 ∨ bt s (i + 1) ≠ 120 then .bad
        else match hexv (bt s (i + 2)), hexv (bt s (i + 3)) with
          | some h, some l => quoN s mark n (i + 4) (out ++ [hex2 h l])
          | _, _ => .bad
section
variable {s : ByteArray} {mark : Int} {n i : Nat} {out : List UInt8} {R : QuoR}
theorem quo_end (h : quoN s mark (n + 1) i out = R) (hm : bt s i = mark) : R = .ok out (i + 1) := by
  rw [quoN, if_pos hm] at h; exact h.symm
theorem quo_bad (h : quoN s mark (n + 1) i out = R) (hm : ¬ bt s i = mark) (hb : s.size ≤ i ∨ bt s i < 32 ∨ 126 < bt s i) : R = .bad := by
  rw [quoN, if_neg hm, if_pos hb] at h; exact h.symm
theorem quo_plain (h : quoN s mark (n + 1) i out = R) (hm : ¬ bt s i = mark) (hb : ¬ (s.size ≤ i ∨ bt s i < 32 ∨ 126 < bt s i)) (h92 : ¬ bt s i = 92) : quoN s mark n (i + 1) (out ++ [bu s i]) = R := by
  rwa [quoN, if_neg hm, if_neg hb, if_pos h92] at h
theorem quo_esc {m : Int} (h : quoN s mark (n + 1) i out = R) (hm : ¬ bt s i = mark) (hb : ¬ (s.size ≤ i ∨ bt s i < 32 ∨ 126 < bt s i)) (h92 : bt s i = 92) (he : escF mark (bt s (i + 1)) = some m) :
    quoN s mark n (i + 2) (out ++ [m.toNat.toUInt8]) = R := by
  rwa [quoN, if_neg hm, if_neg hb, if_neg (by simp [h92]), he] at h
theorem quo_noesc (h : quoN s mark (n + 1) i out = R) (hm : ¬ bt s i = mark) (hb : ¬ (s.size ≤ i ∨ bt s i < 32 ∨ 126 < bt s i)) (h92 : bt s i = 92) (he : escF mark (bt s (i + 1)) = none)
    (hx : mark = 34 ∨ ¬ bt s (i + 1) = 120 ∨ hexv (bt s (i + 2)) = none ∨ hexv (bt s (i + 3)) = none) : R = .bad := by
  rw [quoN, if_neg hm, if_neg hb, if_neg (by simp [h92]), he] at h
  dsimp only at h
  split at h
  · exact h.symm
  · rename_i hn
    rcases hx with hx | hx | hx | hx
    · exact absurd (.inl hx) hn
    · exact absurd (.inr hx) hn
    · rw [hx] at h; exact h.symm
    · rw [hx] at h
      generalize hexv (bt s (i + 2)) = q at h
      cases q <;> exact h.symm
theorem quo_hex {a b : Int} (h : quoN s mark (n + 1) i out = R) (hm : ¬ bt s i = mark) (hb : ¬ (s.size ≤ i ∨ bt s i < 32 ∨ 126 < bt s i)) (h92 : bt s i = 92) (he : escF mark (bt s (i + 1)) = none)
    (h34 : ¬ mark = 34) (h120 : bt s (i + 1) = 120) (ha : hexv (bt s (i + 2)) = some a) (hb2 : hexv (bt s (i + 3)) = some b) : quoN s mark n (i + 4) (out ++ [hex2 a b]) = R := by
  rw [quoN, if_neg hm, if_neg hb, if_neg (by simp [h92]), he] at h
  dsimp only at h
  rwa [if_neg (by simp [h34, h120]), ha, hb2] at h
end
theorem hexv_lo {c v : Int} (h : hexv c = some v) : 0 ≤ v ∧ v ≤ 15 := by
  unfold hexv at h
  repeat' split at h
  all_goals first | (cases h; omega) | cases h
theorem hexv_in {c v : Int} (h : hexv c = some v) : ¬ c = 0 := by
  unfold hexv at h
  repeat' split at h
  all_goals first | omega | cases h
theorem escF_in {mark c m : Int} (h : escF mark c = some m) : ¬ c = 0 ∧ 0 ≤ m ∧ m ≤ 92 := by
  unfold escF at h
  repeat' split at h
  all_goals first | (cases h; omega) | cases h
end Go.Proofs.YtmapaagdaojpaaaGreatDoor
namespace Go.Proofs.YtmapaagdaojpaaaGreatDoor

def digitsB : ByteArray := ⟨#[48, 49, 50, 51, 52, 53, 54, 55, 56, 57]⟩
def dashB : ByteArray := ⟨#[45]⟩
def numD (s : ByteArray) : ByteArray := ⟨(Lib.trimPrefix s.data.toList dashB.data.toList).toArray⟩
def trimD (d : ByteArray) : ByteArray := ⟨(Lib.trimS d.data.toList digitsB.data.toList).toArray⟩
/-- Is it the text of a number? -/
def isNumB (s : ByteArray) : Bool :=
  !(numD s).toList.isEmpty && decide ((numD s).size ≤ 500) && (trimD (numD s)).toList.isEmpty && (bt (numD s) 0 != 48 || s.toList == [48])
section
variable {s d : ByteArray} {R : Bool}
theorem num_no (h : isNumB s = R) (hd : numD s = d) (hx : d.toList = [] ∨ ¬ d.size ≤ 500 ∨ ¬ (trimD d).toList = []) : R = false := by
  subst hd h
  unfold isNumB
  rcases hx with hx | hx | hx <;> simp [hx]
theorem num_yes (h : isNumB s = R) (hd : numD s = d) (h1 : ¬ d.toList = []) (h2 : d.size ≤ 500) (h3 : (trimD d).toList = []) : R = (bt d 0 != 48 || s.toList == [48]) := by
  subst hd h
  unfold isNumB
  simp [h1, h2, h3]
end
end Go.Proofs.YtmapaagdaojpaaaGreatDoor
namespace Go.Proofs.YtmapaagdaojpaaaGreatDoor

/-- What the reading of a token comes to: a fault with its place, or the token and the place behind it. -/
inductive TokR where
  | bad (code : Int) (at_ : Nat)
  | ok (kind : Int) (text : ByteArray) (fin : Nat)
def digE (s : ByteArray) (i : Nat) : Nat := runTo s (fun c => cls c.toNat == 3) i
/-- Does another token begin directly behind? -/
def nearB (s : ByteArray) (fin : Nat) : Bool :=
  decide (fin < s.size) && (cls (bt s fin).toNat == 2 || cls (bt s fin).toNat == 3 || bt s fin == 45 || bt s fin == 95 || bt s fin == 46)
def near (s : ByteArray) (kind : Int) (fr fin : Nat) : TokR := if nearB s fin = true then .bad 44 fin else .ok kind (s.extract fr fin) fin
def quoR (mark : Int) (fr : Nat) : QuoR → TokR
  | .bad => .bad 41 fr
  | .ok out fin => if mark = 39 then .ok 1 ⟨out.toArray⟩ fin else if out.length < 1 ∨ 60 < out.length then .bad 43 fr else .ok 2 ⟨out.toArray⟩ fin
def tokN (s : ByteArray) (i : Nat) : TokR :=
  if bt s i = 39 ∨ bt s i = 34 then quoR (bt s i) i (quoN s (bt s i) (s.size - i) (i + 1) [])
  else if cls (bt s i).toNat = 4 then .ok 6 (s.extract i (i + 1)) (i + 1)
  else if steB (bt s i) = true ∧ bt s (i + 1) = 46 then
    if runTo s (inner none8) (i + 2) < i + 3 ∨ i + 42 < runTo s (inner none8) (i + 2) then .bad 43 i else near s 5 i (runTo s (inner none8) (i + 2))
  else if cls (bt s i).toNat = 2 then
    if i + 60 < runTo s (inner dashes) i then .bad 43 i else near s 3 i (runTo s (inner dashes) i)
  else if cls (bt s i).toNat = 3 ∨ (bt s i = 45 ∧ cls (bt s (i + 1)).toNat = 3) then
    if isNumB (s.extract i (digE s (i + 1))) = true then near s 4 i (digE s (i + 1)) else .bad 43 i
  else if bt s i = 36 then
    if isKeyB (s.extract i (if cls (bt s (i + 1)).toNat = 2 then runTo s (inner dashes) (i + 1) else i + 1)) = true then
      near s 7 i (if cls (bt s (i + 1)).toNat = 2 then runTo s (inner dashes) (i + 1) else i + 1)
    else .bad 45 i
  else .bad 40 i
section
variable {s : ByteArray} {i : Nat} {R : TokR}
theorem tok_quo (h : tokN s i = R) (hq : bt s i = 39 ∨ bt s i = 34) : quoR (bt s i) i (quoN s (bt s i) (s.size - i) (i + 1) []) = R := by
  rwa [tokN, if_pos hq] at h
theorem tok_sign (h : tokN s i = R) (hq : ¬ (bt s i = 39 ∨ bt s i = 34)) (h4 : cls (bt s i).toNat = 4) : R = .ok 6 (s.extract i (i + 1)) (i + 1) := by
  rw [tokN, if_neg hq, if_pos h4] at h; exact h.symm
theorem tok_var (h : tokN s i = R) (hq : ¬ (bt s i = 39 ∨ bt s i = 34)) (h4 : ¬ cls (bt s i).toNat = 4) (hv : steB (bt s i) = true ∧ bt s (i + 1) = 46) :
    (if runTo s (inner none8) (i + 2) < i + 3 ∨ i + 42 < runTo s (inner none8) (i + 2) then .bad 43 i else near s 5 i (runTo s (inner none8) (i + 2))) = R := by
  rwa [tokN, if_neg hq, if_neg h4, if_pos hv] at h
theorem tok_name (h : tokN s i = R) (hq : ¬ (bt s i = 39 ∨ bt s i = 34)) (hv : ¬ (steB (bt s i) = true ∧ bt s (i + 1) = 46)) (h2 : cls (bt s i).toNat = 2) :
    (if i + 60 < runTo s (inner dashes) i then .bad 43 i else near s 3 i (runTo s (inner dashes) i)) = R := by
  rwa [tokN, if_neg hq, if_neg (by rw [h2]; decide), if_neg hv, if_pos h2] at h
theorem tok_num (h : tokN s i = R) (hq : ¬ (bt s i = 39 ∨ bt s i = 34)) (h4 : ¬ cls (bt s i).toNat = 4) (hv : ¬ (steB (bt s i) = true ∧ bt s (i + 1) = 46)) (h2 : ¬ cls (bt s i).toNat = 2)
    (h3 : cls (bt s i).toNat = 3 ∨ (bt s i = 45 ∧ cls (bt s (i + 1)).toNat = 3)) :
    (if isNumB (s.extract i (digE s (i + 1))) = true then near s 4 i (digE s (i + 1)) else .bad 43 i) = R := by
  rwa [tokN, if_neg hq, if_neg h4, if_neg hv, if_neg h2, if_pos h3] at h
theorem tok_word (h : tokN s i = R) (h36 : bt s i = 36) :
    (if isKeyB (s.extract i (if cls (bt s (i + 1)).toNat = 2 then runTo s (inner dashes) (i + 1) else i + 1)) = true then
      near s 7 i (if cls (bt s (i + 1)).toNat = 2 then runTo s (inner dashes) (i + 1) else i + 1) else .bad 45 i) = R := by
  have e : cls (36 : Int).toNat = 0 := by decide
  have e2 : steB 36 = false := by decide
  rwa [tokN, if_neg (by rw [h36]; decide), if_neg (by rw [h36, e]; decide), if_neg (by rw [h36, e2]; simp), if_neg (by rw [h36, e]; decide), if_neg (by rw [h36, e]; simp), if_pos h36] at h
theorem tok_none (h : tokN s i = R) (hq : ¬ (bt s i = 39 ∨ bt s i = 34)) (h4 : ¬ cls (bt s i).toNat = 4) (hv : ¬ (steB (bt s i) = true ∧ bt s (i + 1) = 46)) (h2 : ¬ cls (bt s i).toNat = 2)
    (h3 : ¬ (cls (bt s i).toNat = 3 ∨ (bt s i = 45 ∧ cls (bt s (i + 1)).toNat = 3))) (h36 : ¬ bt s i = 36) : R = .bad 40 i := by
  rw [tokN, if_neg hq, if_neg h4, if_neg hv, if_neg h2, if_neg h3, if_neg h36] at h; exact h.symm
theorem near_bad {k : Int} {fr fin : Nat} (h : near s k fr fin = R) (hn : nearB s fin = true) : R = .bad 44 fin := by rw [near, if_pos hn] at h; exact h.symm
theorem near_ok {k : Int} {fr fin : Nat} (h : near s k fr fin = R) (hn : nearB s fin = false) : R = .ok k (s.extract fr fin) fin := by rw [near, if_neg (by simp [hn])] at h; exact h.symm
end
end Go.Proofs.YtmapaagdaojpaaaGreatDoor
namespace Go.Proofs.YtmapaagdaojpaaaGreatDoor

structure Tk where
  kind : Int
  text : ByteArray
  at_ : Nat
/-- What a scan comes to: a fault with its place, or the tokens and the comments. -/
inductive ScanR where
  | bad (code : Int) (at_ : Nat)
  | ok (l : List Tk) (sp : List (Nat × Nat))
def toksN (s : ByteArray) : Nat → Nat → List (Nat × Nat) → List Tk → ScanR
  | 0, _, sp, acc => .ok acc sp
  | n + 1, i, sp, acc => match skipN s (s.size + 1) i sp with
    | .err x => .bad 42 x
    | .ok j sp' => if j = s.size then .ok acc sp' else match tokN s j with
      | .bad c x => .bad c x
      | .ok kind text fin => toksN s n fin sp' (acc ++ [⟨kind, text, j⟩])
def scanN (s : ByteArray) : ScanR := if 40000 < s.size then .bad 7 0 else toksN s (s.size + 1) 0 [] []
section
variable {s : ByteArray} {n i j x fin : Nat} {sp sp' : List (Nat × Nat)} {acc : List Tk} {R : ScanR} {c kind : Int} {text : ByteArray}
theorem toks_com (h : toksN s (n + 1) i sp acc = R) (hs : skipN s (s.size + 1) i sp = .err x) : R = .bad 42 x := by
  rw [toksN, hs] at h; exact h.symm
theorem toks_end (h : toksN s (n + 1) i sp acc = R) (hs : skipN s (s.size + 1) i sp = .ok j sp') (hj : j = s.size) : R = .ok acc sp' := by
  rw [toksN, hs] at h; dsimp only at h; rw [if_pos hj] at h; exact h.symm
theorem toks_bad (h : toksN s (n + 1) i sp acc = R) (hs : skipN s (s.size + 1) i sp = .ok j sp') (hj : ¬ j = s.size) (ht : tokN s j = .bad c x) : R = .bad c x := by
  rw [toksN, hs] at h; dsimp only at h; rw [if_neg hj, ht] at h; exact h.symm
theorem toks_next (h : toksN s (n + 1) i sp acc = R) (hs : skipN s (s.size + 1) i sp = .ok j sp') (hj : ¬ j = s.size) (ht : tokN s j = .ok kind text fin) : toksN s n fin sp' (acc ++ [⟨kind, text, j⟩]) = R := by
  rw [toksN, hs] at h; dsimp only at h; rw [if_neg hj, ht] at h; exact h
end

theorem comN_le (s : ByteArray) : ∀ (n i e : Nat), comN s n i = some e → i < e ∧ e ≤ s.size
  | 0, i, e, h => by simp [comN] at h
  | n + 1, i, e, h => by
    unfold comN at h
    split at h
    · split at h
      · cases h; omega
      · have := comN_le s n (i + 1) e h; omega
    · cases h
theorem skip_le (s : ByteArray) : ∀ (n i : Nat) (sp : List (Nat × Nat)) (j : Nat) (sp' : List (Nat × Nat)), i ≤ s.size → skipN s n i sp = .ok j sp' → i ≤ j ∧ j ≤ s.size
  | 0, i, sp, j, sp', h0, h => by simp only [skipN, SkipR.ok.injEq] at h; omega
  | n + 1, i, sp, j, sp', h0, h => by
    unfold skipN at h
    split at h
    · split at h
      · have := skip_le s n (i + 1) _ j sp' (by omega) h; omega
      · split at h
        · have hl := runTo_le s notLf i (by omega)
          have := skip_le s n _ _ j sp' (by unfold lineEnd; omega) h
          unfold lineEnd at this; omega
        · split at h
          · split at h
            · cases h
            · rename_i e he
              have hl := comN_le s _ _ _ he
              have := skip_le s n _ _ j sp' (by omega) h; omega
          · cases h; omega
    · cases h; omega
theorem quo_le (s : ByteArray) (mark : Int) (hm : ¬ mark = 0) : ∀ (n i : Nat) (out out' : List UInt8) (fin : Nat), quoN s mark n i out = .ok out' fin → i < fin ∧ fin ≤ s.size
  | 0, i, out, out', fin, h => by simp [quoN] at h
  | n + 1, i, out, out', fin, h => by
    have hin : ∀ k, ¬ bt s k = 0 → k < s.size := fun k hk => Nat.lt_of_not_le fun q => hk (bt_out q)
    unfold quoN at h
    split at h
    · rename_i hb
      have := hin i (by rw [hb]; exact hm)
      cases h; omega
    · split at h
      · cases h
      · split at h
        · have := quo_le s mark hm n _ _ _ _ h; omega
        · split at h
          · have := quo_le s mark hm n _ _ _ _ h; omega
          · split at h
            · cases h
            · split at h
              · have := quo_le s mark hm n _ _ _ _ h; omega
              · cases h
theorem near_fin {s : ByteArray} {k kind : Int} {fr fin f : Nat} {text : ByteArray} (h : near s k fr fin = .ok kind text f) : f = fin ∧ kind = k ∧ text = s.extract fr fin := by
  unfold near at h; split at h
  · cases h
  · cases h; exact ⟨rfl, rfl, rfl⟩
/-- A token has a byte at least. -/
theorem tok_lt {s : ByteArray} {i fin : Nat} {kind : Int} {text : ByteArray} (hi : i < s.size) (h : tokN s i = .ok kind text fin) : i < fin ∧ fin ≤ s.size := by
  unfold tokN at h
  split at h
  · rename_i hq
    unfold quoR at h
    split at h
    · cases h
    · rename_i out f hqq
      have hm : ¬ bt s i = 0 := by rcases hq with q | q <;> omega
      have := quo_le s _ hm _ _ _ _ _ hqq
      split at h
      · cases h; omega
      · split at h
        · cases h
        · cases h; omega
  · split at h
    · cases h; omega
    · split at h
      · split at h
        · cases h
        · rename_i hst hlen
          obtain ⟨rfl, _, _⟩ := near_fin h
          have h1 : i + 1 < s.size := Nat.lt_of_not_le fun q => by rw [bt_out q] at hst; exact absurd hst.2 (by decide)
          have := runTo_le s (inner none8) (i + 2) (by omega)
          omega
      · split at h
        · split at h
          · cases h
          · rename_i h2 hlen
            obtain ⟨rfl, _, _⟩ := near_fin h
            have := runTo_le s (inner dashes) (i + 1) (by omega)
            rw [runTo_step hi (by unfold inner; simp [h2])]
            omega
        · split at h
          · split at h
            · obtain ⟨rfl, _, _⟩ := near_fin h
              have := runTo_le s (fun c => cls c.toNat == 3) (i + 1) (by omega)
              unfold digE; omega
            · cases h
          · split at h
            · generalize he : (if cls (bt s (i + 1)).toNat = 2 then runTo s (inner dashes) (i + 1) else i + 1) = e at h
              have he2 : i < e ∧ e ≤ s.size := by
                subst he
                have := runTo_le s (inner dashes) (i + 1) (by omega)
                split <;> omega
              split at h
              · obtain ⟨rfl, _, _⟩ := near_fin h; exact he2
              · cases h
            · cases h
end Go.Proofs.YtmapaagdaojpaaaGreatDoor
namespace Go.Proofs.YtmapaagdaojpaaaGreatDoor

/-- t is s up to place p. -/
structure Cut (s t : ByteArray) (p : Nat) : Prop where
  size : t.size = p
  le : p ≤ s.size
  byte : ∀ i, i < p → bt t i = bt s i
  bu : ∀ i, i < p → bu t i = bu s i
  text : ∀ i j, j ≤ p → t.extract i j = s.extract i j
theorem cut_of (s : ByteArray) (p : Nat) (h : p ≤ s.size) : Cut s (s.extract 0 p) p := by
  have hs : (s.extract 0 p).size = p := by rw [ByteArray.size_extract]; omega
  have hb : ∀ i, i < p → Proofs.YtmapaagdaojpaaaGreatDoor.bu (s.extract 0 p) i = Proofs.YtmapaagdaojpaaaGreatDoor.bu s i := fun i hi => by
    unfold Proofs.YtmapaagdaojpaaaGreatDoor.bu
    rw [dif_pos (by omega), dif_pos (by omega), ByteArray.getElem_extract]
    simp
  refine ⟨hs, h, fun i hi => by rw [bt_bu, bt_bu, hb i hi], hb, fun i j hj => ?_⟩
  rw [ByteArray.extract_extract]
  congr 1 <;> omega
section
variable {s t : ByteArray} {p : Nat}
theorem Cut.out (h : Cut s t p) {i : Nat} (hi : p ≤ i) : bt t i = 0 := bt_out (by rw [h.size]; exact hi)
theorem runN_pre (h : Cut s t p) (q : Int → Bool) : ∀ (n i m : Nat), i ≤ p → p - i ≤ m → s.size - i ≤ n → runN s q n i ≤ p → runN t q m i = runN s q n i
  | 0, i, m, h1, h2, h3, h4 => by
    have := h.le
    cases m with
    | zero => rfl
    | succ m =>
      show runN t q (m + 1) i = i
      rw [runN, if_neg (by rw [h.size]; omega)]
  | n + 1, i, m, h1, h2, h3, h4 => by
    unfold runN at h4
    cases m with
    | zero =>
      have hip : i = p := by omega
      split at h4
      · have := runN_le s q n (i + 1)
        have hl : i < s.size := by rename_i hc; exact hc.1
        have := (runN_le s q (s.size - (i + 1)) (i + 1) (by omega)).1
        have h5 : runN s q n (i + 1) = runN s q (s.size - (i + 1)) (i + 1) := runN_fuel s q _ _ _ (by omega) (by omega)
        omega
      · rename_i hc; rw [runN, runN, if_neg hc]
    | succ m =>
      rw [runN, runN]
      split at h4
      · rename_i hc
        have h5 : runN s q n (i + 1) = runN s q (s.size - (i + 1)) (i + 1) := runN_fuel s q _ _ _ (by omega) (by omega)
        have h6 := (runN_le s q (s.size - (i + 1)) (i + 1) (by omega)).1
        have hip : i < p := by omega
        rw [if_pos hc, if_pos (by rw [h.size, h.byte i hip]; exact ⟨hip, hc.2⟩)]
        exact runN_pre h q n (i + 1) m (by omega) (by omega) (by omega) h4
      · rename_i hc
        rw [if_neg hc]
        by_cases hip : i < p
        · rw [if_neg (by rw [h.byte i hip]; have := h.le; intro q; exact hc ⟨by omega, q.2⟩)]
        · rw [if_neg (by rw [h.size]; omega)]
where
  runN_fuel (s : ByteArray) (q : Int → Bool) : ∀ (n m i : Nat), s.size - i ≤ n → s.size - i ≤ m → runN s q n i = runN s q m i
    | 0, 0, _, _, _ => rfl
    | 0, m + 1, i, h1, _ => by rw [runN, runN, if_neg (by omega)]
    | n + 1, 0, i, _, h2 => by rw [runN, runN, if_neg (by omega)]
    | n + 1, m + 1, i, h1, h2 => by
      rw [runN, runN]
      split
      · exact runN_fuel s q n m (i + 1) (by omega) (by omega)
      · rfl
theorem runTo_pre (h : Cut s t p) (q : Int → Bool) {i : Nat} (hi : i ≤ p) (hr : runTo s q i ≤ p) : runTo t q i = runTo s q i := by
  unfold runTo at hr ⊢
  exact runN_pre h q _ i _ hi (by rw [h.size]; omega) (Nat.le_refl _) hr
theorem comN_pre (h : Cut s t p) {e : Nat} (he : e ≤ p) : ∀ (n i m : Nat), comN s n i = some e → e - i ≤ m + 1 → comN t m i = some e
  | 0, i, m, h1, _ => by simp [comN] at h1
  | n + 1, i, m, h1, h2 => by
    have hl := comN_le s _ _ _ h1
    unfold comN at h1
    split at h1
    · rename_i hi
      cases m with
      | zero =>
        split at h1
        · cases h1; omega
        · have := comN_le s _ _ _ h1
          have h3 : ∀ n, comN s n (i + 1) = some e → i + 3 ≤ e := fun n hn => by
            cases n with
            | zero => simp [comN] at hn
            | succ n =>
              unfold comN at hn
              split at hn
              · split at hn
                · cases hn; omega
                · have := comN_le s _ _ _ hn; omega
              · cases hn
          have := h3 n h1; omega
      | succ m =>
        rw [comN]
        split at h1
        · rename_i hb
          cases h1
          rw [if_pos (by rw [h.size]; omega), h.byte i (by omega), h.byte (i + 1) (by omega), if_pos hb]
        · rename_i hb
          have h3 := comN_le s _ _ _ h1
          rw [if_pos (by rw [h.size]; omega), h.byte i (by omega), h.byte (i + 1) (by omega), if_neg hb]
          exact comN_pre h he n (i + 1) m h1 (by omega)
    · cases h1
theorem comEnd_pre (h : Cut s t p) {e i : Nat} (he : e ≤ p) (h1 : comEnd s i = some e) : comEnd t i = some e := by
  have := comN_le s _ _ _ h1
  exact comN_pre h he _ i _ h1 (by rw [h.size]; omega)
theorem isStar_pre (h : Cut s t p) {i : Nat} (hi : i < p) : isStar t i = isStar s i := by
  unfold isStar; rw [h.byte i hi, h.byte (i - 1) (by omega)]
theorem isOpen_pre (h : Cut s t p) {i : Nat} (hi : i < p) (ho : isOpen s i = false) : isOpen t i = false := by
  by_cases h1 : i + 1 < p
  · unfold isOpen at ho ⊢; rw [h.byte i hi, h.byte (i + 1) h1]; exact ho
  · unfold isOpen; rw [h.out (i := i + 1) (by omega)]; simp
theorem isOpen_pre' (h : Cut s t p) {i : Nat} (hi : i + 1 < p) : isOpen t i = isOpen s i := by
  unfold isOpen; rw [h.byte i (by omega), h.byte (i + 1) hi]
theorem star_lt' {s : ByteArray} {i : Nat} (hi : i < s.size) (hst : isStar s i = true) : i < lineEnd s i ∧ lineEnd s i ≤ s.size := by
  have hb : notLf (bt s i) = true := by
    unfold isStar at hst; simp only [Bool.and_eq_true, beq_iff_eq] at hst
    unfold notLf; rw [hst.1]; rfl
  unfold lineEnd
  rw [runTo_step hi hb]
  have := runTo_le s notLf (i + 1) (by omega)
  omega
theorem skip_pre (h : Cut s t p) : ∀ (n i : Nat) (sp : List (Nat × Nat)) (j : Nat) (sp' : List (Nat × Nat)) (m : Nat), s.size - i < n → i ≤ p → j ≤ p → p - i < m → skipN s n i sp = .ok j sp' → skipN t m i sp = .ok j sp'
  | 0, i, sp, j, sp', m, hn, _, _, _, _ => by omega
  | n + 1, i, sp, j, sp', m, hn, hi, hj, hm, hs => by
    have hle := h.le
    obtain ⟨m, rfl⟩ : ∃ k, m = k + 1 := ⟨m - 1, by omega⟩
    have hij := skip_le s _ _ _ _ _ (by omega) hs
    unfold skipN at hs
    rw [skipN, h.size]
    split at hs
    · rename_i hlt
      split at hs
      · rename_i hw
        have h2 := skip_le s _ _ _ _ _ (by omega) hs
        rw [if_pos (by omega), h.byte i (by omega), if_pos hw]
        exact skip_pre h n _ _ _ _ m (by omega) (by omega) hj (by omega) hs
      · rename_i hw
        split at hs
        · rename_i hst
          have hl := star_lt' hlt hst
          have h2 := skip_le s _ _ _ _ _ hl.2 hs
          have he : lineEnd t i = lineEnd s i := runTo_pre h _ hi (by unfold lineEnd at h2; omega)
          rw [if_pos (by omega), h.byte i (by omega), if_neg hw, isStar_pre h (by omega), if_pos hst, he]
          exact skip_pre h n _ _ _ _ m (by omega) (by omega) hj (by omega) hs
        · rename_i hst
          split at hs
          · rename_i ho
            split at hs
            · cases hs
            · rename_i e he
              have hl := comN_le s _ _ _ he
              have h2 := skip_le s _ _ _ _ _ hl.2 hs
              rw [if_pos (by omega), h.byte i (by omega), if_neg hw, isStar_pre h (by omega), if_neg hst, isOpen_pre' h (by omega), if_pos ho, comEnd_pre h (by omega) he]
              exact skip_pre h n _ _ _ _ m (by omega) (by omega) hj (by omega) hs
          · rename_i ho
            cases hs
            by_cases hip : i < p
            · rw [if_pos hip, h.byte i hip, if_neg hw, isStar_pre h hip, if_neg hst, isOpen_pre h hip (by simpa using ho)]; rfl
            · rw [if_neg hip]
    · rename_i hlt
      cases hs
      rw [if_neg (by omega)]
end
/-- t agrees with s on a token's bytes, and behind it has the same byte, or none, or a blank. -/
structure Agree (s t : ByteArray) (i fin : Nat) : Prop where
  le : fin ≤ t.size
  le' : fin ≤ s.size
  byte : ∀ x, i ≤ x → x < fin → bt t x = bt s x
  bu : ∀ x, i ≤ x → x < fin → bu t x = bu s x
  text : t.extract i fin = s.extract i fin
  fin : (bt t fin = bt s fin ∧ (fin < t.size ↔ fin < s.size)) ∨ bt t fin = 0 ∨ bt t fin = 32 ∨ bt t fin = 10
theorem Cut.agree {s t : ByteArray} {p : Nat} (h : Cut s t p) {i fin : Nat} (hf : fin ≤ p) : Agree s t i fin := by
  have := h.le
  refine ⟨by rw [h.size]; exact hf, by omega, fun x _ hx => h.byte x (by omega), fun x _ hx => h.bu x (by omega), h.text _ _ hf, ?_⟩
  by_cases h1 : fin < p
  · exact .inl ⟨h.byte _ h1, by rw [h.size]; omega⟩
  · exact .inr (.inl (h.out (by omega)))
section
variable {s t : ByteArray} {a fin : Nat}
theorem runTo_same (h : Agree s t a fin) (q : Int → Bool) (hq : q 0 = false ∧ q 32 = false ∧ q 10 = false) : ∀ (k i : Nat), fin - i = k → a ≤ i → i ≤ fin → runTo s q i = fin → runTo t q i = fin
  | 0, i, hk, ha, hi, hr => by
    obtain rfl : i = fin := by omega
    have hs : ¬ (i < s.size ∧ q (bt s i) = true) := by
      rintro ⟨h1, h2⟩
      rw [runTo_step h1 h2] at hr
      have := runTo_le s q (i + 1) (by omega)
      omega
    refine runTo_stop ?_
    rintro ⟨h1, h2⟩
    rcases h.fin with ⟨e, hz⟩ | e | e | e
    · exact hs ⟨hz.1 h1, by rw [← e]; exact h2⟩
    all_goals (rw [e] at h2; simp [hq] at h2)
  | k + 1, i, hk, ha, hi, hr => by
    have h1 := h.le
    have h2 := h.le'
    by_cases hc : q (bt s i) = true
    · rw [runTo_step (by omega) (by rw [h.byte i ha (by omega)]; exact hc)]
      rw [runTo_step (by omega) hc] at hr
      exact runTo_same h q hq k (i + 1) (by omega) (by omega) (by omega) hr
    · rw [runTo_stop (fun q => hc q.2)] at hr; omega
theorem inner_blank (more : ByteArray) (h : more = none8 ∨ more = dashes) : inner more 0 = false ∧ inner more 32 = false ∧ inner more 10 = false := by
  rcases h with rfl | rfl <;> decide
theorem quo_same (h : Agree s t a fin) {mark : Int} (hm : ¬ mark = 0) : ∀ (n i : Nat) (out out' : List UInt8) (m : Nat), a ≤ i → fin - i ≤ m → quoN s mark n i out = .ok out' fin → quoN t mark m i out = .ok out' fin
  | 0, i, out, out', m, _, _, hq => by simp [quoN] at hq
  | n + 1, i, out, out', m, ha, hk, hq => by
    have hle := h.le
    have hij := quo_le s mark hm _ _ _ _ _ hq
    obtain ⟨m, rfl⟩ : ∃ k, m = k + 1 := ⟨m - 1, by omega⟩
    unfold quoN at hq
    rw [quoN, h.byte i ha (by omega)]
    split at hq
    · rename_i hb; cases hq; rw [if_pos hb]
    · rename_i hb
      rw [if_neg hb]
      split at hq
      · cases hq
      · rename_i hb2
        rw [if_neg (by omega)]
        split at hq
        · rename_i h92
          have h3 := quo_le s mark hm _ _ _ _ _ hq
          rw [if_pos h92, h.bu i ha (by omega)]
          exact quo_same h hm n _ _ _ m (by omega) (by omega) hq
        · rename_i h92
          rw [if_neg h92]
          split at hq
          · rename_i mm hmm
            have h3 := quo_le s mark hm _ _ _ _ _ hq
            rw [h.byte (i + 1) (by omega) (by omega), hmm]
            exact quo_same h hm n _ _ _ m (by omega) (by omega) hq
          · rename_i hmm
            split at hq
            · cases hq
            · rename_i hx
              split at hq
              · rename_i x y hx1 hy1
                have h3 := quo_le s mark hm _ _ _ _ _ hq
                rw [h.byte (i + 1) (by omega) (by omega), h.byte (i + 2) (by omega) (by omega), h.byte (i + 3) (by omega) (by omega), hmm, hx1, hy1]
                dsimp only
                rw [if_neg hx]
                exact quo_same h hm n _ _ _ m (by omega) (by omega) hq
              · cases hq
theorem near_same {i : Nat} (h : Agree s t i fin) {k kind : Int} {f e : Nat} {text : ByteArray} (he : e = fin) (hn : near s k i e = .ok kind text f) : near t k i e = .ok kind text f := by
  subst he
  unfold near at hn ⊢
  split at hn
  · cases hn
  · rename_i hb
    have : nearB t e = false := by
      unfold nearB at hb ⊢
      rcases h.fin with ⟨q, hz⟩ | q | q | q
      · rw [q, show decide (e < t.size) = decide (e < s.size) from by simp [hz]]; simpa using hb
      all_goals (rw [q]; simp; intro _; decide)
    rw [this, h.text]
    simpa using hn
/-- A token's text, wherever it stands with no token directly behind. -/
theorem tok_same {i : Nat} {kind : Int} {text : ByteArray} (h : Agree s t i fin) (hi : i < s.size) (hk : tokN s i = .ok kind text fin) : tokN t i = .ok kind text fin := by
  have hle := h.le
  have hlt := tok_lt hi hk
  have hb := h.byte i (Nat.le_refl _) (by omega)
  have hb1 : bt t (i + 1) = bt s (i + 1) ∨ (¬ bt t (i + 1) = 46 ∧ fin = i + 1) := by
    by_cases h1 : i + 1 < fin
    · exact .inl (h.byte _ (by omega) h1)
    · have e : fin = i + 1 := by omega
      rcases h.fin with ⟨q, _⟩ | q | q | q
      · exact .inl (e ▸ q)
      all_goals exact .inr ⟨by rw [← e, q]; decide, e⟩
  unfold tokN at hk ⊢
  rw [hb]
  split at hk
  · rename_i hq
    rw [if_pos hq]
    unfold quoR at hk ⊢
    split at hk
    · cases hk
    · rename_i out f hqq
      have hm : ¬ bt s i = 0 := by rcases hq with q | q <;> omega
      have h2 := quo_le s _ hm _ _ _ _ _ hqq
      have hff : f = fin := by
        split at hk
        · cases hk; rfl
        · split at hk
          · cases hk
          · cases hk; rfl
      subst hff
      rw [quo_same h hm _ _ _ _ (t.size - i) (by omega) (by omega) hqq]
      exact hk
  · rename_i hq
    rw [if_neg hq]
    split at hk
    · rename_i h4
      have htx := h.text
      cases hk
      rw [if_pos h4, htx]
    · rename_i h4
      rw [if_neg h4]
      split at hk
      · rename_i hv
        split at hk
        · cases hk
        · rename_i hl
          obtain ⟨hfe, _, _⟩ := near_fin hk
          have hr : runTo t (inner none8) (i + 2) = runTo s (inner none8) (i + 2) := by
            rw [← hfe]; exact runTo_same h _ (inner_blank _ (.inl rfl)) _ _ rfl (by omega) (by omega) hfe.symm
          have hbb : bt t (i + 1) = bt s (i + 1) := by rcases hb1 with e | e; exact e; omega
          rw [hbb, if_pos hv, hr, if_neg hl]
          exact near_same h hfe.symm hk
      · rename_i hv
        have hv2 : ¬ (steB (bt s i) = true ∧ bt t (i + 1) = 46) := by
          rcases hb1 with e | e
          · rw [e]; exact hv
          · exact fun q => e.1 q.2
        rw [if_neg hv2]
        split at hk
        · rename_i h2
          rw [if_pos h2]
          split at hk
          · cases hk
          · rename_i hl
            obtain ⟨hfe, _, _⟩ := near_fin hk
            have hr : runTo t (inner dashes) i = runTo s (inner dashes) i := by
              rw [← hfe]; exact runTo_same h _ (inner_blank _ (.inr rfl)) _ _ rfl (by omega) (by omega) hfe.symm
            rw [hr, if_neg hl]
            exact near_same h hfe.symm hk
        · rename_i h2
          rw [if_neg h2]
          split at hk
          · rename_i h3
            have h3' : cls (bt s i).toNat = 3 ∨ (bt s i = 45 ∧ cls (bt t (i + 1)).toNat = 3) := by
              rcases h3 with q | q
              · exact .inl q
              · refine .inr ⟨q.1, ?_⟩
                rcases hb1 with e | e
                · rw [e]; exact q.2
                · split at hk
                  · obtain ⟨hfe, _, _⟩ := near_fin hk
                    have h1 : i + 1 < s.size := Nat.lt_of_not_le fun qq => by rw [bt_out qq] at q; exact absurd q.2 (by decide)
                    have hd : digE s (i + 1) = digE s (i + 2) := runTo_step h1 (by simp [q.2])
                    have := runTo_le s (fun c => cls c.toNat == 3) (i + 2) (by omega)
                    unfold digE at hd hfe
                    omega
                  · cases hk
            rw [if_pos h3']
            split at hk
            · rename_i hnum
              obtain ⟨hfe, _, _⟩ := near_fin hk
              have he : digE t (i + 1) = digE s (i + 1) := by
                rw [← hfe]; exact runTo_same h _ ⟨by decide, by decide, by decide⟩ _ _ rfl (by omega) (by omega) hfe.symm
              have htx : t.extract i (digE s (i + 1)) = s.extract i (digE s (i + 1)) := by rw [← hfe]; exact h.text
              rw [he, htx, if_pos hnum]
              exact near_same h hfe.symm hk
            · cases hk
          · rename_i h3
            split at hk
            · rename_i h36
              have hc0 : cls (bt s i).toNat = 0 := by rw [h36]; decide
              have h3' : ¬ (cls (bt s i).toNat = 3 ∨ (bt s i = 45 ∧ cls (bt t (i + 1)).toNat = 3)) := by rw [hc0, h36]; simp
              rw [if_neg h3', if_pos h36]
              generalize hE : (if cls (bt s (i + 1)).toNat = 2 then runTo s (inner dashes) (i + 1) else i + 1) = E at hk
              split at hk
              · rename_i hkey
                obtain ⟨hfe, _, _⟩ := near_fin hk
                have hlen : fin ≠ i + 1 := by
                  intro e
                  rw [← hfe, e] at hkey
                  have h1 : (s.extract i (i + 1)).toList.length = 1 := by
                    rw [Lib.toList_data, Array.length_toList]
                    show (s.extract i (i + 1)).size = 1
                    rw [ByteArray.size_extract]; omega
                  unfold isKeyB at hkey
                  generalize (s.extract i (i + 1)).toList = l at h1 hkey
                  match l, h1 with
                  | [_], _ => simp at hkey
                have hbb : bt t (i + 1) = bt s (i + 1) := by rcases hb1 with e | e; exact e; exact absurd e.2 hlen
                rw [hbb]
                by_cases hc : cls (bt s (i + 1)).toNat = 2
                · rw [if_pos hc] at hE
                  have hr : runTo t (inner dashes) (i + 1) = E := by
                    rw [← hfe]; exact runTo_same h _ (inner_blank _ (.inr rfl)) _ _ rfl (by omega) (by omega) (by rw [hE, hfe])
                  have htx : t.extract i E = s.extract i E := by rw [← hfe]; exact h.text
                  rw [if_pos hc, hr, htx, if_pos hkey]
                  exact near_same h hfe.symm hk
                · rw [if_neg hc] at hE; omega
              · cases hk
            · cases hk
end
theorem tok_pre {s t : ByteArray} {p i fin : Nat} {kind : Int} {text : ByteArray} (h : Cut s t p) (hi : i < s.size) (hf : fin ≤ p) (hk : tokN s i = .ok kind text fin) : tokN t i = .ok kind text fin :=
  tok_same (h.agree hf) hi hk

theorem toks_acc (s : ByteArray) : ∀ (n i : Nat) (sp : List (Nat × Nat)) (acc l : List Tk) (sp' : List (Nat × Nat)), i ≤ s.size → toksN s n i sp acc = .ok l sp' → ∃ r, l = acc ++ r ∧ (∀ x ∈ r, i ≤ x.at_ ∧ x.at_ < s.size)
  | 0, i, sp, acc, l, sp', _, h => by simp only [toksN, ScanR.ok.injEq] at h; exact ⟨[], by simp [h.1], by simp⟩
  | n + 1, i, sp, acc, l, sp', hi, h => by
    unfold toksN at h
    split at h
    · cases h
    · rename_i j sp1 hs
      have hj := skip_le s _ _ _ _ _ hi hs
      split at h
      · cases h; exact ⟨[], by simp, by simp⟩
      · rename_i hne
        split at h
        · cases h
        · rename_i kind text fin ht
          have hf := tok_lt (by omega) ht
          obtain ⟨r, hr, hall⟩ := toks_acc s n _ _ _ _ _ hf.2 h
          refine ⟨⟨kind, text, j⟩ :: r, by simp [hr], fun x hx => ?_⟩
          rcases List.mem_cons.1 hx with rfl | hx
          · exact ⟨hj.1, by show j < s.size; omega⟩
          · have := hall x hx; omega
theorem toks_pre {s t : ByteArray} {p k : Nat} {l : List Tk} {spf : List (Nat × Nat)} (h : Cut s t p) (hk : k < l.length) (hp : l[k].at_ = p) : ∀ (n i : Nat) (sp : List (Nat × Nat)) (acc : List Tk) (m : Nat), i ≤ p → p - i < m → acc.length ≤ k →
    toksN s n i sp acc = .ok l spf → ∃ sp', toksN t m i sp acc = .ok (l.take k) sp'
  | 0, i, sp, acc, m, hi, hm, ha, hs => by simp only [toksN, ScanR.ok.injEq] at hs; rw [← hs.1] at hk; omega
  | n + 1, i, sp, acc, m, hi, hm, ha, hs => by
    have hle := h.le
    obtain ⟨m, rfl⟩ : ∃ q, m = q + 1 := ⟨m - 1, by omega⟩
    unfold toksN at hs
    split at hs
    · cases hs
    · rename_i j sp1 hsk
      have hj := skip_le s _ _ _ _ _ (by omega) hsk
      split at hs
      · cases hs; omega
      · rename_i hne
        split at hs
        · cases hs
        · rename_i kind text fin ht
          have hf := tok_lt (by omega) ht
          obtain ⟨r, hr, hall⟩ := toks_acc s n _ _ _ _ _ hf.2 hs
          by_cases hak : acc.length = k
          · have hlk : l[k] = ⟨kind, text, j⟩ := by
              simp only [hr, ← hak]; simp
            have hjp : j = p := by rw [← hp, hlk]
            have hskt := skip_pre h _ i sp j sp1 (t.size + 1) (by omega) hi (by omega) (by rw [h.size]; omega) hsk
            refine ⟨sp1, ?_⟩
            rw [toksN, hskt]
            dsimp only
            rw [if_pos (by rw [h.size]; exact hjp), hr, ← hak]
            simp
          · have hlk : l[k] ∈ r := by
              have h1 : l[k] = r[k - (acc ++ [(⟨kind, text, j⟩ : Tk)]).length]'(by have : l.length = _ := congrArg List.length hr; simp at this ⊢; omega) := by
                simp only [hr]
                rw [List.getElem_append_right (by simp; omega)]
              rw [h1]; exact List.getElem_mem _
            have hpf : fin ≤ p := by have := hall _ hlk; omega
            have hskt := skip_pre h _ i sp j sp1 (t.size + 1) (by omega) hi (by omega) (by rw [h.size]; omega) hsk
            have htt := tok_pre h (by omega) hpf ht
            obtain ⟨sp2, h2⟩ := toks_pre h hk hp n fin sp1 _ m hpf (by omega) (by simp; omega) hs
            refine ⟨sp2, ?_⟩
            rw [toksN, hskt]
            dsimp only
            rw [if_neg (by rw [h.size]; omega), htt]
            exact h2
/-- **The tokens of a text up to one of them are those of the text up to its place.** -/
theorem scan_prefix {s : ByteArray} {l : List Tk} {sp : List (Nat × Nat)} (h : scanN s = .ok l sp) {k : Nat} (hk : k < l.length) : l[k].at_ ≤ s.size ∧ ∃ sp', scanN (s.extract 0 l[k].at_) = .ok (l.take k) sp' := by
  unfold scanN at h
  split at h
  · cases h
  · rename_i hs
    obtain ⟨r, hr, hall⟩ := toks_acc s _ _ _ _ _ _ (Nat.zero_le _) h
    simp only [List.nil_append] at hr
    have hlt : l[k].at_ < s.size := (hall _ (hr ▸ List.getElem_mem hk)).2
    have hc := cut_of s l[k].at_ (by omega)
    refine ⟨by omega, ?_⟩
    obtain ⟨sp', h2⟩ := toks_pre hc hk rfl _ 0 [] [] ((s.extract 0 l[k].at_).size + 1) (Nat.zero_le _) (by rw [hc.size]; omega) (Nat.zero_le _) h
    refine ⟨sp', ?_⟩
    unfold scanN
    rw [if_neg (by rw [hc.size]; omega)]
    exact h2
end Go.Proofs.YtmapaagdaojpaaaGreatDoor
namespace Go.Proofs.YtmapaagdaojpaaaGreatDoor

/-- Does a place lie in a comment? -/
def inSp (sp : List (Nat × Nat)) (i : Nat) : Bool := sp.any fun p => decide (p.1 ≤ i) && decide (i < p.2)
/-- A byte of a text without its comments. -/
def blank (s : ByteArray) (sp : List (Nat × Nat)) (i : Nat) : UInt8 := if inSp sp i && bu s i != 10 then 32 else bu s i
def stripB (s : ByteArray) (sp : List (Nat × Nat)) : ByteArray := ⟨Array.ofFn fun i : Fin s.size => blank s sp i⟩
theorem stripB_size (s : ByteArray) (sp : List (Nat × Nat)) : (stripB s sp).size = s.size := by
  show (Array.ofFn _).size = _
  simp
theorem stripB_bu (s : ByteArray) (sp : List (Nat × Nat)) (i : Nat) (h : i < s.size) : bu (stripB s sp) i = blank s sp i := by
  have hs := stripB_size s sp
  unfold bu
  rw [dif_pos (by omega)]
  show (Array.ofFn fun i : Fin s.size => blank s sp i)[i]'(by simpa using h) = _
  simp
theorem ext_bu {s t : ByteArray} (h : s.size = t.size) (hb : ∀ i, i < s.size → bu s i = bu t i) : s = t := by
  apply ByteArray.ext
  apply Array.ext h
  intro i h1 h2
  have := hb i h1
  unfold bu at this
  rw [dif_pos (show i < s.size from h1), dif_pos (show i < t.size from h2)] at this
  exact this
theorem stripB_nil (s : ByteArray) : stripB s [] = s := by
  refine ext_bu (stripB_size s []) fun i hi => ?_
  rw [stripB_size] at hi
  rw [stripB_bu s [] i hi]
  simp [blank, inSp]

/-- What skip has passed: comments, one behind the other, and white space. -/
theorem skip_passed (s : ByteArray) : ∀ (n i : Nat) (sp : List (Nat × Nat)) (j : Nat) (sp' : List (Nat × Nat)), i ≤ s.size → s.size - i < n → skipN s n i sp = .ok j sp' →
    ∃ q, sp' = sp ++ q ∧ (∀ p ∈ q, i ≤ p.1 ∧ p.2 ≤ j) ∧ (∀ x, i ≤ x → x < j → inSp q x = true ∨ cls (bt s x).toNat = 1) ∧ (j = s.size ∨ (¬ cls (bt s j).toNat = 1 ∧ isStar s j = false ∧ isOpen s j = false))
  | 0, i, sp, j, sp', _, hn, _ => by omega
  | n + 1, i, sp, j, sp', hi, hn, h => by
    have hcons : ∀ (e : Nat), i < e → e ≤ s.size → skipN s n e (sp ++ [(i, e)]) = .ok j sp' → ∃ q, sp' = sp ++ q ∧ (∀ p ∈ q, i ≤ p.1 ∧ p.2 ≤ j) ∧ (∀ x, i ≤ x → x < j → inSp q x = true ∨ cls (bt s x).toNat = 1) ∧ (j = s.size ∨ (¬ cls (bt s j).toNat = 1 ∧ isStar s j = false ∧ isOpen s j = false)) := by
      intro e h1 h2 hk
      have hj := skip_le s _ _ _ _ _ h2 hk
      obtain ⟨q, hq, hall, hx, he⟩ := skip_passed s n _ _ _ _ h2 (by omega) hk
      refine ⟨(i, e) :: q, by simp [hq], fun p hp => ?_, fun x hx1 hx2 => ?_, he⟩
      · rcases List.mem_cons.1 hp with rfl | hp
        · exact ⟨Nat.le_refl _, hj.1⟩
        · have := hall p hp; omega
      · by_cases hxe : x < e
        · exact .inl (by simp [inSp]; exact .inl ⟨hx1, hxe⟩)
        · rcases hx x (by omega) hx2 with q1 | q1
          · exact .inl (by unfold inSp at q1 ⊢; rw [List.any_cons, q1, Bool.or_true])
          · exact .inr q1
    unfold skipN at h
    split at h
    · rename_i hlt
      split at h
      · rename_i hw
        obtain ⟨q, hq, hall, hx, he⟩ := skip_passed s n _ _ _ _ (by omega) (by omega) h
        refine ⟨q, hq, fun p hp => by have := hall p hp; omega, fun x hx1 hx2 => ?_, he⟩
        by_cases hxi : x = i
        · exact .inr (hxi ▸ hw)
        · exact hx x (by omega) hx2
      · rename_i hw
        split at h
        · rename_i hst
          have hl := star_lt' hlt hst
          exact hcons _ hl.1 hl.2 h
        · rename_i hst
          split at h
          · rename_i ho
            split at h
            · cases h
            · rename_i e he
              have hl := comN_le s _ _ _ he
              exact hcons e (by omega) hl.2 h
          · rename_i ho
            cases h
            exact ⟨[], by simp, by simp, fun x h1 h2 => by omega, .inr ⟨hw, by simpa using hst, by simpa using ho⟩⟩
    · cases h
      exact ⟨[], by simp, by simp, fun x h1 h2 => by omega, .inl (by omega)⟩
theorem skip_white_all (t : ByteArray) (sp : List (Nat × Nat)) : ∀ (k i j m : Nat), j - i = k → i ≤ j → j ≤ t.size → t.size - i < m → (∀ x, i ≤ x → x < j → cls (bt t x).toNat = 1) →
    (j = t.size ∨ (¬ cls (bt t j).toNat = 1 ∧ isStar t j = false ∧ isOpen t j = false)) → skipN t m i sp = .ok j sp
  | 0, i, j, m, hk, hij, hj, hm, _, he => by
    obtain rfl : i = j := by omega
    obtain ⟨m, rfl⟩ : ∃ q, m = q + 1 := ⟨m - 1, by omega⟩
    rw [skipN]
    rcases he with he | ⟨h1, h2, h3⟩
    · rw [if_neg (by omega)]
    · by_cases hlt : i < t.size
      · rw [if_pos hlt, if_neg h1, h2, h3]; rfl
      · rw [if_neg hlt]
  | k + 1, i, j, m, hk, hij, hj, hm, hw, he => by
    obtain ⟨m, rfl⟩ : ∃ q, m = q + 1 := ⟨m - 1, by omega⟩
    rw [skipN, if_pos (by omega), if_pos (hw i (Nat.le_refl _) (by omega))]
    exact skip_white_all t sp k (i + 1) j m (by omega) (by omega) hj (by omega) (fun x h1 h2 => hw x (by omega) h2) he

/-- All that a scan's comments are: one behind the other, apart from the tokens. -/
theorem toks_spans (s : ByteArray) : ∀ (n i : Nat) (sp : List (Nat × Nat)) (acc l : List Tk) (sp' : List (Nat × Nat)), i ≤ s.size → toksN s n i sp acc = .ok l sp' → ∃ q, sp' = sp ++ q ∧ ∀ p ∈ q, i ≤ p.1
  | 0, i, sp, acc, l, sp', _, h => by simp only [toksN, ScanR.ok.injEq] at h; exact ⟨[], by simp [h.2], by simp⟩
  | n + 1, i, sp, acc, l, sp', hi, h => by
    unfold toksN at h
    split at h
    · cases h
    · rename_i j sp1 hs
      have hj := skip_le s _ _ _ _ _ hi hs
      obtain ⟨q, hq, hall, _, _⟩ := skip_passed s _ _ _ _ _ hi (by omega) hs
      split at h
      · cases h; exact ⟨q, hq, fun p hp => (hall p hp).1⟩
      · rename_i hne
        split at h
        · cases h
        · rename_i kind text fin ht
          have hf := tok_lt (by omega) ht
          obtain ⟨r, hr, hall2⟩ := toks_spans s n _ _ _ _ _ hf.2 h
          refine ⟨q ++ r, by simp [hr, hq], fun p hp => ?_⟩
          rcases List.mem_append.1 hp with hp | hp
          · exact (hall p hp).1
          · have := hall2 p hp; omega
theorem inSp_append (a b : List (Nat × Nat)) (x : Nat) : inSp (a ++ b) x = (inSp a x || inSp b x) := by simp [inSp]
theorem inSp_hi {a : List (Nat × Nat)} {x i : Nat} (h : ∀ p ∈ a, p.2 ≤ i) (hx : i ≤ x) : inSp a x = false := by
  unfold inSp
  rw [List.any_eq_false]
  intro p hp
  have := h p hp
  simp; omega
theorem inSp_lo {a : List (Nat × Nat)} {x i : Nat} (h : ∀ p ∈ a, i ≤ p.1) (hx : x < i) : inSp a x = false := by
  unfold inSp
  rw [List.any_eq_false]
  intro p hp
  have := h p hp
  simp; omega
theorem strip_bt {s : ByteArray} {S : List (Nat × Nat)} {x : Nat} (hx : inSp S x = false) : bt (stripB s S) x = bt s x ∧ bu (stripB s S) x = bu s x := by
  have hs := stripB_size s S
  by_cases h : x < s.size
  · have e : bu (stripB s S) x = bu s x := by rw [stripB_bu s S x h]; unfold blank; rw [hx]; rfl
    exact ⟨by rw [bt_bu, bt_bu, e], e⟩
  · refine ⟨by rw [bt_out (by omega), bt_out (by omega)], ?_⟩
    unfold bu; rw [dif_neg (by omega), dif_neg (by omega)]
theorem strip_in {s : ByteArray} {S : List (Nat × Nat)} {x : Nat} (h : x < s.size) (hx : inSp S x = true) : bt (stripB s S) x = 32 ∨ (bt (stripB s S) x = 10 ∧ bt s x = 10) := by
  rw [bt_bu, bt_bu, stripB_bu s S x h]
  unfold blank
  rw [hx]
  by_cases h10 : bu s x = 10
  · rw [h10]; exact .inr ⟨rfl, rfl⟩
  · simp [h10]
theorem strip_lf {s : ByteArray} {S : List (Nat × Nat)} {x : Nat} : bt (stripB s S) x = 10 ↔ bt s x = 10 := by
  by_cases h : x < s.size
  · rw [bt_bu, bt_bu, stripB_bu s S x h]
    unfold blank
    by_cases h10 : bu s x = 10
    · rw [h10]; simp
    · have : ¬ ((bu s x).toNat : Int) = 10 := fun q => h10 (UInt8.toNat_inj.1 (by show _ = 10; omega))
      cases inSp S x <;> simp [this, h10]
  · rw [bt_out (by rw [stripB_size]; omega), bt_out (by omega)]
theorem strip_text {s : ByteArray} {S : List (Nat × Nat)} {i fin : Nat} (hf : fin ≤ s.size) (h : ∀ x, i ≤ x → x < fin → inSp S x = false) : (stripB s S).extract i fin = s.extract i fin := by
  have hs := stripB_size s S
  have e1 : ((stripB s S).extract i fin).size = fin - i := by rw [ByteArray.size_extract]; omega
  have e2 : (s.extract i fin).size = fin - i := by rw [ByteArray.size_extract]; omega
  refine ext_bu (by omega) fun x hx => ?_
  have := (strip_bt (s := s) (h (i + x) (by omega) (by omega))).2
  unfold bu at this ⊢
  rw [dif_pos (by omega), dif_pos (by omega)] at this
  rw [dif_pos hx, dif_pos (by omega), ByteArray.getElem_extract, ByteArray.getElem_extract]
  exact this
theorem toks_strip {s : ByteArray} {l : List Tk} {S : List (Nat × Nat)} : ∀ (n i : Nat) (sp : List (Nat × Nat)) (acc : List Tk) (m : Nat), i ≤ s.size → s.size - i < n → s.size - i < m → (∀ p ∈ sp, p.2 ≤ i) →
    toksN s n i sp acc = .ok l S → toksN (stripB s S) m i [] acc = .ok l []
  | 0, i, sp, acc, m, _, hn, _, _, _ => by omega
  | n + 1, i, sp, acc, m, hi, hn, hm, hsp, h => by
    have hsz := stripB_size s S
    obtain ⟨m, rfl⟩ : ∃ q, m = q + 1 := ⟨m - 1, by omega⟩
    have h0 := h
    unfold toksN at h
    split at h
    · cases h
    · rename_i j sp1 hs
      have hj := skip_le s _ _ _ _ _ hi hs
      obtain ⟨q, hq, hall, hx, he⟩ := skip_passed s _ _ _ _ _ hi (by omega) hs
      -- what lies behind
      have hrest : ∃ r, S = sp ++ q ++ r ∧ ∀ p ∈ r, j ≤ p.1 ∧ (j < s.size → j < p.1) := by
        split at h
        · rename_i hje
          cases h; exact ⟨[], by simp [hq], by simp⟩
        · rename_i hne
          split at h
          · cases h
          · rename_i kind text fin ht
            have hf := tok_lt (by omega) ht
            obtain ⟨r, hr, hall2⟩ := toks_spans s n _ _ _ _ _ hf.2 h
            exact ⟨r, by rw [hr, hq], fun p hp => by have := hall2 p hp; omega⟩
      obtain ⟨r, hS, hr⟩ := hrest
      have hspq : ∀ p ∈ sp ++ q, p.2 ≤ j := fun p hp => by
        rcases List.mem_append.1 hp with hp | hp
        · have := hsp p hp; omega
        · exact (hall p hp).2
      have hwhite : ∀ x, i ≤ x → x < j → cls (bt (stripB s S) x).toNat = 1 := fun x h1 h2 => by
        by_cases hin : inSp S x = true
        · rcases strip_in (s := s) (by omega) hin with e | ⟨e, _⟩ <;> rw [e] <;> decide
        · rw [(strip_bt (s := s) (S := S) (x := x) (by simpa using hin)).1]
          rcases hx x h1 h2 with hc | hc
          · rw [hS, inSp_append, inSp_append, hc] at hin; simp at hin
          · exact hc
      have hend : j = (stripB s S).size ∨ (¬ cls (bt (stripB s S) j).toNat = 1 ∧ isStar (stripB s S) j = false ∧ isOpen (stripB s S) j = false) := by
        by_cases hje : j = s.size
        · exact .inl (by rw [hsz]; exact hje)
        · rcases he with he | ⟨h1, h2, h3⟩
          · exact absurd he hje
          · have hjS : inSp S j = false := by
              rw [hS, inSp_append, inSp_hi hspq (Nat.le_refl _), inSp_lo (i := j + 1) (fun p hp => by have := hr p hp; omega) (by omega)]; rfl
            have e := (strip_bt (s := s) hjS).1
            refine .inr ⟨by rw [e]; exact h1, ?_, ?_⟩
            · unfold isStar at h2 ⊢
              rw [e]
              have : (bt (stripB s S) (j - 1) == 10) = (bt s (j - 1) == 10) := by
                rw [Bool.eq_iff_iff]; simp only [beq_iff_eq]; exact strip_lf
              rw [this]; exact h2
            · unfold isOpen at h3 ⊢
              rw [e]
              by_cases hin : inSp S (j + 1) = true
              · by_cases hl : j + 1 < s.size
                · rcases strip_in (s := s) hl hin with e | ⟨e, _⟩ <;> rw [e] <;> simp
                · rw [bt_out (s := stripB s S) (by omega)]; simp
              · rw [(strip_bt (s := s) (S := S) (x := j + 1) (by simpa using hin)).1]; exact h3
      have hst : skipN (stripB s S) ((stripB s S).size + 1) i [] = .ok j [] := skip_white_all _ _ _ i j _ rfl hj.1 (by omega) (by omega) hwhite hend
      rw [toksN, hst]
      dsimp only
      split at h
      · rename_i hje
        cases h
        rw [if_pos (by omega)]
      · rename_i hne
        rw [if_neg (by omega)]
        split at h
        · cases h
        · rename_i kind text fin ht
          have hf := tok_lt (by omega) ht
          obtain ⟨r2, hr2, hall2⟩ := toks_spans s n _ _ _ _ _ hf.2 h
          have hout : ∀ x, j ≤ x → x < fin → inSp S x = false := fun x h1 h2 => by
            rw [hr2, hq, inSp_append, inSp_hi hspq h1, inSp_lo hall2 h2]; rfl
          have hag : Agree s (stripB s S) j fin := by
            refine ⟨by omega, hf.2, fun x h1 h2 => (strip_bt (hout x h1 h2)).1, fun x h1 h2 => (strip_bt (hout x h1 h2)).2, strip_text hf.2 hout, ?_⟩
            by_cases hin : inSp S fin = true
            · by_cases hl : fin < s.size
              · rcases strip_in (s := s) hl hin with e | ⟨e, _⟩
                · exact .inr (.inr (.inl e))
                · exact .inr (.inr (.inr e))
              · exact .inr (.inl (bt_out (by omega)))
            · exact .inl ⟨(strip_bt (s := s) (by simpa using hin)).1, by rw [hsz]⟩
          rw [tok_same hag (by omega) ht]
          dsimp only
          exact toks_strip n fin _ _ m hf.2 (by omega) (by omega) (fun p hp => by
            rw [hq] at hp
            have := hspq p hp; omega) h
/-- **A text without its comments has the same tokens, and no comment.** -/
theorem scan_strip {s : ByteArray} {l : List Tk} {sp : List (Nat × Nat)} (h : scanN s = .ok l sp) : scanN (stripB s sp) = .ok l [] := by
  unfold scanN at h ⊢
  rw [stripB_size]
  split at h
  · cases h
  · rename_i hs
    rw [if_neg hs]
    exact toks_strip _ _ _ _ _ (Nat.zero_le _) (by omega) (by omega) (by simp) h

/-- What a token says of its place. -/
def AtB (s : ByteArray) (x : Tk) : Prop :=
  x.at_ < s.size ∧ (x.kind = 1 → bt s x.at_ = 39) ∧ (x.kind = 2 → bt s x.at_ = 34) ∧ (¬ x.kind = 1 → ¬ x.kind = 2 → ∃ fin, x.at_ ≤ fin ∧ fin ≤ s.size ∧ x.text = s.extract x.at_ fin)
theorem tok_at {s : ByteArray} {i fin : Nat} {kind : Int} {text : ByteArray} (hi : i < s.size) (h : tokN s i = .ok kind text fin) : AtB s ⟨kind, text, i⟩ := by
  have hlt := tok_lt hi h
  have hnear : ∀ {k : Int} {e : Nat}, ¬ k = 1 → ¬ k = 2 → near s k i e = .ok kind text fin → AtB s ⟨kind, text, i⟩ := fun h1 h2 hn => by
    obtain ⟨hfe, rfl, htx⟩ := near_fin hn
    exact ⟨hi, fun q => absurd q h1, fun q => absurd q h2, fun _ _ => ⟨fin, by show i ≤ fin; omega, hlt.2, by rw [hfe]; exact htx⟩⟩
  unfold tokN at h
  split at h
  · rename_i hq
    unfold quoR at h
    split at h
    · cases h
    · split at h
      · rename_i h39
        cases h; exact ⟨hi, fun _ => h39, fun q => absurd q (by show ¬ (1 : Int) = 2; decide), fun q => absurd rfl q⟩
      · rename_i h39
        split at h
        · cases h
        · cases h; exact ⟨hi, fun q => absurd q (by show ¬ (2 : Int) = 1; decide), fun _ => by rcases hq with q | q; exact absurd q h39; exact q, fun _ q => absurd rfl q⟩
  · split at h
    · cases h; exact ⟨hi, fun q => absurd q (by show ¬ (6 : Int) = 1; decide), fun q => absurd q (by show ¬ (6 : Int) = 2; decide), fun _ _ => ⟨i + 1, by show i ≤ i + 1; omega, hi, rfl⟩⟩
    · split at h
      · split at h
        · cases h
        · exact hnear (by decide) (by decide) h
      · split at h
        · split at h
          · cases h
          · exact hnear (by decide) (by decide) h
        · split at h
          · split at h
            · exact hnear (by decide) (by decide) h
            · cases h
          · split at h
            · generalize (if cls (bt s (i + 1)).toNat = 2 then runTo s (inner dashes) (i + 1) else i + 1) = E at h
              split at h
              · exact hnear (by decide) (by decide) h
              · cases h
            · cases h
theorem toks_places (s : ByteArray) : ∀ (n i : Nat) (sp : List (Nat × Nat)) (acc l : List Tk) (sp' : List (Nat × Nat)), i ≤ s.size → (∀ x ∈ acc, AtB s x ∧ x.at_ < i) → acc.Pairwise (fun a b => a.at_ < b.at_) → toksN s n i sp acc = .ok l sp' →
    (∀ x ∈ l, AtB s x) ∧ l.Pairwise (fun a b => a.at_ < b.at_)
  | 0, i, sp, acc, l, sp', _, h1, h2, h => by simp only [toksN, ScanR.ok.injEq] at h; obtain ⟨rfl, _⟩ := h; exact ⟨fun x hx => (h1 x hx).1, h2⟩
  | n + 1, i, sp, acc, l, sp', hi, h1, h2, h => by
    unfold toksN at h
    split at h
    · cases h
    · rename_i j sp1 hs
      have hj := skip_le s _ _ _ _ _ hi hs
      split at h
      · cases h; exact ⟨fun x hx => (h1 x hx).1, h2⟩
      · rename_i hne
        split at h
        · cases h
        · rename_i kind text fin ht
          have hf := tok_lt (by omega) ht
          refine toks_places s n _ _ _ _ _ hf.2 (fun x hx => ?_) ?_ h
          · rcases List.mem_append.1 hx with hx | hx
            · have := h1 x hx; exact ⟨this.1, by omega⟩
            · simp only [List.mem_singleton] at hx
              subst hx
              exact ⟨tok_at (by omega) ht, hf.1⟩
          · rw [List.pairwise_append]
            refine ⟨h2, by simp, fun a ha b hb => ?_⟩
            simp only [List.mem_singleton] at hb
            subst hb
            have := (h1 a ha).2
            show a.at_ < j
            omega
theorem scan_places {s : ByteArray} {l : List Tk} {sp : List (Nat × Nat)} (h : scanN s = .ok l sp) : (∀ x ∈ l, AtB s x) ∧ l.Pairwise (fun a b => a.at_ < b.at_) := by
  unfold scanN at h
  split at h
  · cases h
  · exact toks_places s _ _ _ _ _ _ (Nat.zero_le _) (by simp) .nil h
end Go.Proofs.YtmapaagdaojpaaaGreatDoor
