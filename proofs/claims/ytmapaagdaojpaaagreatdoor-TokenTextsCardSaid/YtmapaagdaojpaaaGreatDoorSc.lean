/- Plain definitions: the tokens of a text. -/
import Derived.Test.YtmapaagdaojpaaaGreatDoorPt
import Derived.Test.YtmapaagdaojpaaaGreatDoorPb
namespace Go.Proofs.YtmapaagdaojpaaaGreatDoor

structure Tk where
  kind : Int
  text : ByteArray
  at_ : Nat
/-- What a scan comes to: a fault with its place, or the tokens and the comments. -/
inductive ScanR where
  | bad (code : Int) (at_ : Nat)
  | ok (l : List Tk) (sp : List (Nat × Nat))
def toksN (s : ByteArray) : Nat → Nat → List (Nat × Nat) → List Tk → ScanR
  | 0, _, sp, acc => .ok acc sp
  | n + 1, i, sp, acc => match skipN s (s.size + 1) i sp with
    | .err x => .bad 42 x
    | .ok j sp' => if j = s.size then .ok acc sp' else match tokN s j with
      | .bad c x => .bad c x
      | .ok kind text fin => toksN s n fin sp' (acc ++ [⟨kind, text, j⟩])
def scanN (s : ByteArray) : ScanR := if 40000 < s.size then .bad 7 0 else toksN s (s.size + 1) 0 [] []
section
variable {s : ByteArray} {n i j x fin : Nat} {sp sp' : List (Nat × Nat)} {acc : List Tk} {R : ScanR} {c kind : Int} {text : ByteArray}
theorem toks_com (h : toksN s (n + 1) i sp acc = R) (hs : skipN s (s.size + 1) i sp = .err x) : R = .bad 42 x := by
  rw [toksN, hs] at h; exact h.symm
theorem toks_end (h : toksN s (n + 1) i sp acc = R) (hs : skipN s (s.size + 1) i sp = .ok j sp') (hj : j = s.size) : R = .ok acc sp' := by
  rw [toksN, hs] at h; dsimp only at h; rw [if_pos hj] at h; exact h.symm
theorem toks_bad (h : toksN s (n + 1) i sp acc = R) (hs : skipN s (s.size + 1) i sp = .ok j sp') (hj : ¬ j = s.size) (ht : tokN s j = .bad c x) : R = .bad c x := by
  rw [toksN, hs] at h; dsimp only at h; rw [if_neg hj, ht] at h; exact h.symm
theorem toks_next (h : toksN s (n + 1) i sp acc = R) (hs : skipN s (s.size + 1) i sp = .ok j sp') (hj : ¬ j = s.size) (ht : tokN s j = .ok kind text fin) : toksN s n fin sp' (acc ++ [⟨kind, text, j⟩]) = R := by
  rw [toksN, hs] at h; dsimp only at h; rw [if_neg hj, ht] at h; exact h
end

theorem comN_le (s : ByteArray) : ∀ (n i e : Nat), comN s n i = some e → i < e ∧ e ≤ s.size
  | 0, i, e, h => by simp [comN] at h
  | n + 1, i, e, h => by
    unfold comN at h
    split at h
    · split at h
      · cases h; omega
      · have := comN_le s n (i + 1) e h; omega
    · cases h
theorem skip_le (s : ByteArray) : ∀ (n i : Nat) (sp : List (Nat × Nat)) (j : Nat) (sp' : List (Nat × Nat)), i ≤ s.size → skipN s n i sp = .ok j sp' → i ≤ j ∧ j ≤ s.size
  | 0, i, sp, j, sp', h0, h => by simp only [skipN, SkipR.ok.injEq] at h; omega
  | n + 1, i, sp, j, sp', h0, h => by
    unfold skipN at h
    split at h
    · split at h
      · have := skip_le s n (i + 1) _ j sp' (by omega) h; omega
      · split at h
        · have hl := runTo_le s notLf i (by omega)
          have := skip_le s n _ _ j sp' (by unfold lineEnd; omega) h
          unfold lineEnd at this; omega
        · split at h
          · split at h
            · cases h
            · rename_i e he
              have hl := comN_le s _ _ _ he
              have := skip_le s n _ _ j sp' (by omega) h; omega
          · cases h; omega
    · cases h; omega
theorem quo_le (s : ByteArray) (mark : Int) (hm : ¬ mark = 0) : ∀ (n i : Nat) (out out' : List UInt8) (fin : Nat), quoN s mark n i out = .ok out' fin → i < fin ∧ fin ≤ s.size
  | 0, i, out, out', fin, h => by simp [quoN] at h
  | n + 1, i, out, out', fin, h => by
    have hin : ∀ k, ¬ bt s k = 0 → k < s.size := fun k hk => Nat.lt_of_not_le fun q => hk (bt_out q)
    unfold quoN at h
    split at h
    · rename_i hb
      have := hin i (by rw [hb]; exact hm)
      cases h; omega
    · split at h
      · cases h
      · split at h
        · have := quo_le s mark hm n _ _ _ _ h; omega
        · split at h
          · have := quo_le s mark hm n _ _ _ _ h; omega
          · split at h
            · cases h
            · split at h
              · have := quo_le s mark hm n _ _ _ _ h; omega
              · cases h
theorem near_fin {s : ByteArray} {k kind : Int} {fr fin f : Nat} {text : ByteArray} (h : near s k fr fin = .ok kind text f) : f = fin ∧ kind = k ∧ text = s.extract fr fin := by
  unfold near at h; split at h
  · cases h
  · cases h; exact ⟨rfl, rfl, rfl⟩
/-- A token has a byte at least. -/
theorem tok_lt {s : ByteArray} {i fin : Nat} {kind : Int} {text : ByteArray} (hi : i < s.size) (h : tokN s i = .ok kind text fin) : i < fin ∧ fin ≤ s.size := by
  unfold tokN at h
  split at h
  · rename_i hq
    unfold quoR at h
    split at h
    · cases h
    · rename_i out f hqq
      have hm : ¬ bt s i = 0 := by rcases hq with q | q <;> omega
      have := quo_le s _ hm _ _ _ _ _ hqq
      split at h
      · cases h; omega
      · split at h
        · cases h
        · cases h; omega
  · split at h
    · cases h; omega
    · split at h
      · split at h
        · cases h
        · rename_i hst hlen
          obtain ⟨rfl, _, _⟩ := near_fin h
          have h1 : i + 1 < s.size := Nat.lt_of_not_le fun q => by rw [bt_out q] at hst; exact absurd hst.2 (by decide)
          have := runTo_le s (inner none8) (i + 2) (by omega)
          omega
      · split at h
        · split at h
          · cases h
          · rename_i h2 hlen
            obtain ⟨rfl, _, _⟩ := near_fin h
            have := runTo_le s (inner dashes) (i + 1) (by omega)
            rw [runTo_step hi (by unfold inner; simp [h2])]
            omega
        · split at h
          · split at h
            · obtain ⟨rfl, _, _⟩ := near_fin h
              have := runTo_le s (fun c => cls c.toNat == 3) (i + 1) (by omega)
              unfold digE; omega
            · cases h
          · split at h
            · generalize he : (if cls (bt s (i + 1)).toNat = 2 then runTo s (inner dashes) (i + 1) else i + 1) = e at h
              have he2 : i < e ∧ e ≤ s.size := by
                subst he
                have := runTo_le s (inner dashes) (i + 1) (by omega)
                split <;> omega
              split at h
              · obtain ⟨rfl, _, _⟩ := near_fin h; exact he2
              · cases h
            · cases h
end Go.Proofs.YtmapaagdaojpaaaGreatDoor
