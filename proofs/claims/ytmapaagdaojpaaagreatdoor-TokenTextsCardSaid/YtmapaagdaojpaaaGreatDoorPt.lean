/- Plain definitions: one token. -/
import Derived.Test.YtmapaagdaojpaaaGreatDoorPc
import Derived.Test.YtmapaagdaojpaaaGreatDoorPn
namespace Go.Proofs.YtmapaagdaojpaaaGreatDoor

/-- What the reading of a token comes to: a fault with its place, or the token and the place behind it. -/
inductive TokR where
  | bad (code : Int) (at_ : Nat)
  | ok (kind : Int) (text : ByteArray) (fin : Nat)
def digE (s : ByteArray) (i : Nat) : Nat := runTo s (fun c => cls c.toNat == 3) i
/-- Does another token begin directly behind? -/
def nearB (s : ByteArray) (fin : Nat) : Bool :=
  decide (fin < s.size) && (cls (bt s fin).toNat == 2 || cls (bt s fin).toNat == 3 || bt s fin == 45 || bt s fin == 95 || bt s fin == 46)
def near (s : ByteArray) (kind : Int) (fr fin : Nat) : TokR := if nearB s fin = true then .bad 44 fin else .ok kind (s.extract fr fin) fin
def quoR (mark : Int) (fr : Nat) : QuoR → TokR
  | .bad => .bad 41 fr
  | .ok out fin => if mark = 39 then .ok 1 ⟨out.toArray⟩ fin else if out.length < 1 ∨ 60 < out.length then .bad 43 fr else .ok 2 ⟨out.toArray⟩ fin
def tokN (s : ByteArray) (i : Nat) : TokR :=
  if bt s i = 39 ∨ bt s i = 34 then quoR (bt s i) i (quoN s (bt s i) (s.size - i) (i + 1) [])
  else if cls (bt s i).toNat = 4 then .ok 6 (s.extract i (i + 1)) (i + 1)
  else if steB (bt s i) = true ∧ bt s (i + 1) = 46 then
    if runTo s (inner none8) (i + 2) < i + 3 ∨ i + 42 < runTo s (inner none8) (i + 2) then .bad 43 i else near s 5 i (runTo s (inner none8) (i + 2))
  else if cls (bt s i).toNat = 2 then
    if i + 60 < runTo s (inner dashes) i then .bad 43 i else near s 3 i (runTo s (inner dashes) i)
  else if cls (bt s i).toNat = 3 ∨ (bt s i = 45 ∧ cls (bt s (i + 1)).toNat = 3) then
    if isNumB (s.extract i (digE s (i + 1))) = true then near s 4 i (digE s (i + 1)) else .bad 43 i
  else if bt s i = 36 then
    if isKeyB (s.extract i (if cls (bt s (i + 1)).toNat = 2 then runTo s (inner dashes) (i + 1) else i + 1)) = true then
      near s 7 i (if cls (bt s (i + 1)).toNat = 2 then runTo s (inner dashes) (i + 1) else i + 1)
    else .bad 45 i
  else .bad 40 i
section
variable {s : ByteArray} {i : Nat} {R : TokR}
theorem tok_quo (h : tokN s i = R) (hq : bt s i = 39 ∨ bt s i = 34) : quoR (bt s i) i (quoN s (bt s i) (s.size - i) (i + 1) []) = R := by
  rwa [tokN, if_pos hq] at h
theorem tok_sign (h : tokN s i = R) (hq : ¬ (bt s i = 39 ∨ bt s i = 34)) (h4 : cls (bt s i).toNat = 4) : R = .ok 6 (s.extract i (i + 1)) (i + 1) := by
  rw [tokN, if_neg hq, if_pos h4] at h; exact h.symm
theorem tok_var (h : tokN s i = R) (hq : ¬ (bt s i = 39 ∨ bt s i = 34)) (h4 : ¬ cls (bt s i).toNat = 4) (hv : steB (bt s i) = true ∧ bt s (i + 1) = 46) :
    (if runTo s (inner none8) (i + 2) < i + 3 ∨ i + 42 < runTo s (inner none8) (i + 2) then .bad 43 i else near s 5 i (runTo s (inner none8) (i + 2))) = R := by
  rwa [tokN, if_neg hq, if_neg h4, if_pos hv] at h
theorem tok_name (h : tokN s i = R) (hq : ¬ (bt s i = 39 ∨ bt s i = 34)) (hv : ¬ (steB (bt s i) = true ∧ bt s (i + 1) = 46)) (h2 : cls (bt s i).toNat = 2) :
    (if i + 60 < runTo s (inner dashes) i then .bad 43 i else near s 3 i (runTo s (inner dashes) i)) = R := by
  rwa [tokN, if_neg hq, if_neg (by rw [h2]; decide), if_neg hv, if_pos h2] at h
theorem tok_num (h : tokN s i = R) (hq : ¬ (bt s i = 39 ∨ bt s i = 34)) (h4 : ¬ cls (bt s i).toNat = 4) (hv : ¬ (steB (bt s i) = true ∧ bt s (i + 1) = 46)) (h2 : ¬ cls (bt s i).toNat = 2)
    (h3 : cls (bt s i).toNat = 3 ∨ (bt s i = 45 ∧ cls (bt s (i + 1)).toNat = 3)) :
    (if isNumB (s.extract i (digE s (i + 1))) = true then near s 4 i (digE s (i + 1)) else .bad 43 i) = R := by
  rwa [tokN, if_neg hq, if_neg h4, if_neg hv, if_neg h2, if_pos h3] at h
theorem tok_word (h : tokN s i = R) (h36 : bt s i = 36) :
    (if isKeyB (s.extract i (if cls (bt s (i + 1)).toNat = 2 then runTo s (inner dashes) (i + 1) else i + 1)) = true then
      near s 7 i (if cls (bt s (i + 1)).toNat = 2 then runTo s (inner dashes) (i + 1) else i + 1) else .bad 45 i) = R := by
  have e : cls (36 : Int).toNat = 0 := by decide
  have e2 : steB 36 = false := by decide
  rwa [tokN, if_neg (by rw [h36]; decide), if_neg (by rw [h36, e]; decide), if_neg (by rw [h36, e2]; simp), if_neg (by rw [h36, e]; decide), if_neg (by rw [h36, e]; simp), if_pos h36] at h
theorem tok_none (h : tokN s i = R) (hq : ¬ (bt s i = 39 ∨ bt s i = 34)) (h4 : ¬ cls (bt s i).toNat = 4) (hv : ¬ (steB (bt s i) = true ∧ bt s (i + 1) = 46)) (h2 : ¬ cls (bt s i).toNat = 2)
    (h3 : ¬ (cls (bt s i).toNat = 3 ∨ (bt s i = 45 ∧ cls (bt s (i + 1)).toNat = 3))) (h36 : ¬ bt s i = 36) : R = .bad 40 i := by
  rw [tokN, if_neg hq, if_neg h4, if_neg hv, if_neg h2, if_neg h3, if_neg h36] at h; exact h.symm
theorem near_bad {k : Int} {fr fin : Nat} (h : near s k fr fin = R) (hn : nearB s fin = true) : R = .bad 44 fin := by rw [near, if_pos hn] at h; exact h.symm
theorem near_ok {k : Int} {fr fin : Nat} (h : near s k fr fin = R) (hn : nearB s fin = false) : R = .ok k (s.extract fr fin) fin := by rw [near, if_neg (by simp [hn])] at h; exact h.symm
end
end Go.Proofs.YtmapaagdaojpaaaGreatDoor
