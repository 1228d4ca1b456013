/- Plain law: places ascend; a token's text begins at its place; a text without its comments has the same tokens. -/
import Derived.Test.YtmapaagdaojpaaaGreatDoorPf
namespace Go.Proofs.YtmapaagdaojpaaaGreatDoor

/-- Does a place lie in a comment? -/
def inSp (sp : List (Nat × Nat)) (i : Nat) : Bool := sp.any fun p => decide (p.1 ≤ i) && decide (i < p.2)
/-- A byte of a text without its comments. -/
def blank (s : ByteArray) (sp : List (Nat × Nat)) (i : Nat) : UInt8 := if inSp sp i && bu s i != 10 then 32 else bu s i
def stripB (s : ByteArray) (sp : List (Nat × Nat)) : ByteArray := ⟨Array.ofFn fun i : Fin s.size => blank s sp i⟩
theorem stripB_size (s : ByteArray) (sp : List (Nat × Nat)) : (stripB s sp).size = s.size := by
  show (Array.ofFn _).size = _
  simp
theorem stripB_bu (s : ByteArray) (sp : List (Nat × Nat)) (i : Nat) (h : i < s.size) : bu (stripB s sp) i = blank s sp i := by
  have hs := stripB_size s sp
  unfold bu
  rw [dif_pos (by omega)]
  show (Array.ofFn fun i : Fin s.size => blank s sp i)[i]'(by simpa using h) = _
  simp
theorem ext_bu {s t : ByteArray} (h : s.size = t.size) (hb : ∀ i, i < s.size → bu s i = bu t i) : s = t := by
  apply ByteArray.ext
  apply Array.ext h
  intro i h1 h2
  have := hb i h1
  unfold bu at this
  rw [dif_pos (show i < s.size from h1), dif_pos (show i < t.size from h2)] at this
  exact this
theorem stripB_nil (s : ByteArray) : stripB s [] = s := by
  refine ext_bu (stripB_size s []) fun i hi => ?_
  rw [stripB_size] at hi
  rw [stripB_bu s [] i hi]
  simp [blank, inSp]

/-- What skip has passed: comments, one behind the other, and white space. -/
theorem skip_passed (s : ByteArray) : ∀ (n i : Nat) (sp : List (Nat × Nat)) (j : Nat) (sp' : List (Nat × Nat)), i ≤ s.size → s.size - i < n → skipN s n i sp = .ok j sp' →
    ∃ q, sp' = sp ++ q ∧ (∀ p ∈ q, i ≤ p.1 ∧ p.2 ≤ j) ∧ (∀ x, i ≤ x → x < j → inSp q x = true ∨ cls (bt s x).toNat = 1) ∧ (j = s.size ∨ (¬ cls (bt s j).toNat = 1 ∧ isStar s j = false ∧ isOpen s j = false))
  | 0, i, sp, j, sp', _, hn, _ => by omega
  | n + 1, i, sp, j, sp', hi, hn, h => by
    have hcons : ∀ (e : Nat), i < e → e ≤ s.size → skipN s n e (sp ++ [(i, e)]) = .ok j sp' → ∃ q, sp' = sp ++ q ∧ (∀ p ∈ q, i ≤ p.1 ∧ p.2 ≤ j) ∧ (∀ x, i ≤ x → x < j → inSp q x = true ∨ cls (bt s x).toNat = 1) ∧ (j = s.size ∨ (¬ cls (bt s j).toNat = 1 ∧ isStar s j = false ∧ isOpen s j = false)) := by
      intro e h1 h2 hk
      have hj := skip_le s _ _ _ _ _ h2 hk
      obtain ⟨q, hq, hall, hx, he⟩ := skip_passed s n _ _ _ _ h2 (by omega) hk
      refine ⟨(i, e) :: q, by simp [hq], fun p hp => ?_, fun x hx1 hx2 => ?_, he⟩
      · rcases List.mem_cons.1 hp with rfl | hp
        · exact ⟨Nat.le_refl _, hj.1⟩
        · have := hall p hp; omega
      · by_cases hxe : x < e
        · exact .inl (by simp [inSp]; exact .inl ⟨hx1, hxe⟩)
        · rcases hx x (by omega) hx2 with q1 | q1
          · exact .inl (by unfold inSp at q1 ⊢; rw [List.any_cons, q1, Bool.or_true])
          · exact .inr q1
    unfold skipN at h
    split at h
    · rename_i hlt
      split at h
      · rename_i hw
        obtain ⟨q, hq, hall, hx, he⟩ := skip_passed s n _ _ _ _ (by omega) (by omega) h
        refine ⟨q, hq, fun p hp => by have := hall p hp; omega, fun x hx1 hx2 => ?_, he⟩
        by_cases hxi : x = i
        · exact .inr (hxi ▸ hw)
        · exact hx x (by omega) hx2
      · rename_i hw
        split at h
        · rename_i hst
          have hl := star_lt' hlt hst
          exact hcons _ hl.1 hl.2 h
        · rename_i hst
          split at h
          · rename_i ho
            split at h
            · cases h
            · rename_i e he
              have hl := comN_le s _ _ _ he
              exact hcons e (by omega) hl.2 h
          · rename_i ho
            cases h
            exact ⟨[], by simp, by simp, fun x h1 h2 => by omega, .inr ⟨hw, by simpa using hst, by simpa using ho⟩⟩
    · cases h
      exact ⟨[], by simp, by simp, fun x h1 h2 => by omega, .inl (by omega)⟩
theorem skip_white_all (t : ByteArray) (sp : List (Nat × Nat)) : ∀ (k i j m : Nat), j - i = k → i ≤ j → j ≤ t.size → t.size - i < m → (∀ x, i ≤ x → x < j → cls (bt t x).toNat = 1) →
    (j = t.size ∨ (¬ cls (bt t j).toNat = 1 ∧ isStar t j = false ∧ isOpen t j = false)) → skipN t m i sp = .ok j sp
  | 0, i, j, m, hk, hij, hj, hm, _, he => by
    obtain rfl : i = j := by omega
    obtain ⟨m, rfl⟩ : ∃ q, m = q + 1 := ⟨m - 1, by omega⟩
    rw [skipN]
    rcases he with he | ⟨h1, h2, h3⟩
    · rw [if_neg (by omega)]
    · by_cases hlt : i < t.size
      · rw [if_pos hlt, if_neg h1, h2, h3]; rfl
      · rw [if_neg hlt]
  | k + 1, i, j, m, hk, hij, hj, hm, hw, he => by
    obtain ⟨m, rfl⟩ : ∃ q, m = q + 1 := ⟨m - 1, by omega⟩
    rw [skipN, if_pos (by omega), if_pos (hw i (Nat.le_refl _) (by omega))]
    exact skip_white_all t sp k (i + 1) j m (by omega) (by omega) hj (by omega) (fun x h1 h2 => hw x (by omega) h2) he

/-- All that a scan's comments are: one behind the other, apart from the tokens. -/
theorem toks_spans (s : ByteArray) : ∀ (n i : Nat) (sp : List (Nat × Nat)) (acc l : List Tk) (sp' : List (Nat × Nat)), i ≤ s.size → toksN s n i sp acc = .ok l sp' → ∃ q, sp' = sp ++ q ∧ ∀ p ∈ q, i ≤ p.1
  | 0, i, sp, acc, l, sp', _, h => by simp only [toksN, ScanR.ok.injEq] at h; exact ⟨[], by simp [h.2], by simp⟩
  | n + 1, i, sp, acc, l, sp', hi, h => by
    unfold toksN at h
    split at h
    · cases h
    · rename_i j sp1 hs
      have hj := skip_le s _ _ _ _ _ hi hs
      obtain ⟨q, hq, hall, _, _⟩ := skip_passed s _ _ _ _ _ hi (by omega) hs
      split at h
      · cases h; exact ⟨q, hq, fun p hp => (hall p hp).1⟩
      · rename_i hne
        split at h
        · cases h
        · rename_i kind text fin ht
          have hf := tok_lt (by omega) ht
          obtain ⟨r, hr, hall2⟩ := toks_spans s n _ _ _ _ _ hf.2 h
          refine ⟨q ++ r, by simp [hr, hq], fun p hp => ?_⟩
          rcases List.mem_append.1 hp with hp | hp
          · exact (hall p hp).1
          · have := hall2 p hp; omega
theorem inSp_append (a b : List (Nat × Nat)) (x : Nat) : inSp (a ++ b) x = (inSp a x || inSp b x) := by simp [inSp]
theorem inSp_hi {a : List (Nat × Nat)} {x i : Nat} (h : ∀ p ∈ a, p.2 ≤ i) (hx : i ≤ x) : inSp a x = false := by
  unfold inSp
  rw [List.any_eq_false]
  intro p hp
  have := h p hp
  simp; omega
theorem inSp_lo {a : List (Nat × Nat)} {x i : Nat} (h : ∀ p ∈ a, i ≤ p.1) (hx : x < i) : inSp a x = false := by
  unfold inSp
  rw [List.any_eq_false]
  intro p hp
  have := h p hp
  simp; omega
theorem strip_bt {s : ByteArray} {S : List (Nat × Nat)} {x : Nat} (hx : inSp S x = false) : bt (stripB s S) x = bt s x ∧ bu (stripB s S) x = bu s x := by
  have hs := stripB_size s S
  by_cases h : x < s.size
  · have e : bu (stripB s S) x = bu s x := by rw [stripB_bu s S x h]; unfold blank; rw [hx]; rfl
    exact ⟨by rw [bt_bu, bt_bu, e], e⟩
  · refine ⟨by rw [bt_out (by omega), bt_out (by omega)], ?_⟩
    unfold bu; rw [dif_neg (by omega), dif_neg (by omega)]
theorem strip_in {s : ByteArray} {S : List (Nat × Nat)} {x : Nat} (h : x < s.size) (hx : inSp S x = true) : bt (stripB s S) x = 32 ∨ (bt (stripB s S) x = 10 ∧ bt s x = 10) := by
  rw [bt_bu, bt_bu, stripB_bu s S x h]
  unfold blank
  rw [hx]
  by_cases h10 : bu s x = 10
  · rw [h10]; exact .inr ⟨rfl, rfl⟩
  · simp [h10]
theorem strip_lf {s : ByteArray} {S : List (Nat × Nat)} {x : Nat} : bt (stripB s S) x = 10 ↔ bt s x = 10 := by
  by_cases h : x < s.size
  · rw [bt_bu, bt_bu, stripB_bu s S x h]
    unfold blank
    by_cases h10 : bu s x = 10
    · rw [h10]; simp
    · have : ¬ ((bu s x).toNat : Int) = 10 := fun q => h10 (UInt8.toNat_inj.1 (by show _ = 10; omega))
      cases inSp S x <;> simp [this, h10]
  · rw [bt_out (by rw [stripB_size]; omega), bt_out (by omega)]
theorem strip_text {s : ByteArray} {S : List (Nat × Nat)} {i fin : Nat} (hf : fin ≤ s.size) (h : ∀ x, i ≤ x → x < fin → inSp S x = false) : (stripB s S).extract i fin = s.extract i fin := by
  have hs := stripB_size s S
  have e1 : ((stripB s S).extract i fin).size = fin - i := by rw [ByteArray.size_extract]; omega
  have e2 : (s.extract i fin).size = fin - i := by rw [ByteArray.size_extract]; omega
  refine ext_bu (by omega) fun x hx => ?_
  have := (strip_bt (s := s) (h (i + x) (by omega) (by omega))).2
  unfold bu at this ⊢
  rw [dif_pos (by omega), dif_pos (by omega)] at this
  rw [dif_pos hx, dif_pos (by omega), ByteArray.getElem_extract, ByteArray.getElem_extract]
  exact this
theorem toks_strip {s : ByteArray} {l : List Tk} {S : List (Nat × Nat)} : ∀ (n i : Nat) (sp : List (Nat × Nat)) (acc : List Tk) (m : Nat), i ≤ s.size → s.size - i < n → s.size - i < m → (∀ p ∈ sp, p.2 ≤ i) →
    toksN s n i sp acc = .ok l S → toksN (stripB s S) m i [] acc = .ok l []
  | 0, i, sp, acc, m, _, hn, _, _, _ => by omega
  | n + 1, i, sp, acc, m, hi, hn, hm, hsp, h => by
    have hsz := stripB_size s S
    obtain ⟨m, rfl⟩ : ∃ q, m = q + 1 := ⟨m - 1, by omega⟩
    have h0 := h
    unfold toksN at h
    split at h
    · cases h
    · rename_i j sp1 hs
      have hj := skip_le s _ _ _ _ _ hi hs
      obtain ⟨q, hq, hall, hx, he⟩ := skip_passed s _ _ _ _ _ hi (by omega) hs
      -- what lies behind
      have hrest : ∃ r, S = sp ++ q ++ r ∧ ∀ p ∈ r, j ≤ p.1 ∧ (j < s.size → j < p.1) := by
        split at h
        · rename_i hje
          cases h; exact ⟨[], by simp [hq], by simp⟩
        · rename_i hne
          split at h
          · cases h
          · rename_i kind text fin ht
            have hf := tok_lt (by omega) ht
            obtain ⟨r, hr, hall2⟩ := toks_spans s n _ _ _ _ _ hf.2 h
            exact ⟨r, by rw [hr, hq], fun p hp => by have := hall2 p hp; omega⟩
      obtain ⟨r, hS, hr⟩ := hrest
      have hspq : ∀ p ∈ sp ++ q, p.2 ≤ j := fun p hp => by
        rcases List.mem_append.1 hp with hp | hp
        · have := hsp p hp; omega
        · exact (hall p hp).2
      have hwhite : ∀ x, i ≤ x → x < j → cls (bt (stripB s S) x).toNat = 1 := fun x h1 h2 => by
        by_cases hin : inSp S x = true
        · rcases strip_in (s := s) (by omega) hin with e | ⟨e, _⟩ <;> rw [e] <;> decide
        · rw [(strip_bt (s := s) (S := S) (x := x) (by simpa using hin)).1]
          rcases hx x h1 h2 with hc | hc
          · rw [hS, inSp_append, inSp_append, hc] at hin; simp at hin
          · exact hc
      have hend : j = (stripB s S).size ∨ (¬ cls (bt (stripB s S) j).toNat = 1 ∧ isStar (stripB s S) j = false ∧ isOpen (stripB s S) j = false) := by
        by_cases hje : j = s.size
        · exact .inl (by rw [hsz]; exact hje)
        · rcases he with he | ⟨h1, h2, h3⟩
          · exact absurd he hje
          · have hjS : inSp S j = false := by
              rw [hS, inSp_append, inSp_hi hspq (Nat.le_refl _), inSp_lo (i := j + 1) (fun p hp => by have := hr p hp; omega) (by omega)]; rfl
            have e := (strip_bt (s := s) hjS).1
            refine .inr ⟨by rw [e]; exact h1, ?_, ?_⟩
            · unfold isStar at h2 ⊢
              rw [e]
              have : (bt (stripB s S) (j - 1) == 10) = (bt s (j - 1) == 10) := by
                rw [Bool.eq_iff_iff]; simp only [beq_iff_eq]; exact strip_lf
              rw [this]; exact h2
            · unfold isOpen at h3 ⊢
              rw [e]
              by_cases hin : inSp S (j + 1) = true
              · by_cases hl : j + 1 < s.size
                · rcases strip_in (s := s) hl hin with e | ⟨e, _⟩ <;> rw [e] <;> simp
                · rw [bt_out (s := stripB s S) (by omega)]; simp
              · rw [(strip_bt (s := s) (S := S) (x := j + 1) (by simpa using hin)).1]; exact h3
      have hst : skipN (stripB s S) ((stripB s S).size + 1) i [] = .ok j [] := skip_white_all _ _ _ i j _ rfl hj.1 (by omega) (by omega) hwhite hend
      rw [toksN, hst]
      dsimp only
      split at h
      · rename_i hje
        cases h
        rw [if_pos (by omega)]
      · rename_i hne
        rw [if_neg (by omega)]
        split at h
        · cases h
        · rename_i kind text fin ht
          have hf := tok_lt (by omega) ht
          obtain ⟨r2, hr2, hall2⟩ := toks_spans s n _ _ _ _ _ hf.2 h
          have hout : ∀ x, j ≤ x → x < fin → inSp S x = false := fun x h1 h2 => by
            rw [hr2, hq, inSp_append, inSp_hi hspq h1, inSp_lo hall2 h2]; rfl
          have hag : Agree s (stripB s S) j fin := by
            refine ⟨by omega, hf.2, fun x h1 h2 => (strip_bt (hout x h1 h2)).1, fun x h1 h2 => (strip_bt (hout x h1 h2)).2, strip_text hf.2 hout, ?_⟩
            by_cases hin : inSp S fin = true
            · by_cases hl : fin < s.size
              · rcases strip_in (s := s) hl hin with e | ⟨e, _⟩
                · exact .inr (.inr (.inl e))
                · exact .inr (.inr (.inr e))
              · exact .inr (.inl (bt_out (by omega)))
            · exact .inl ⟨(strip_bt (s := s) (by simpa using hin)).1, by rw [hsz]⟩
          rw [tok_same hag (by omega) ht]
          dsimp only
          exact toks_strip n fin _ _ m hf.2 (by omega) (by omega) (fun p hp => by
            rw [hq] at hp
            have := hspq p hp; omega) h
/-- **A text without its comments has the same tokens, and no comment.** -/
theorem scan_strip {s : ByteArray} {l : List Tk} {sp : List (Nat × Nat)} (h : scanN s = .ok l sp) : scanN (stripB s sp) = .ok l [] := by
  unfold scanN at h ⊢
  rw [stripB_size]
  split at h
  · cases h
  · rename_i hs
    rw [if_neg hs]
    exact toks_strip _ _ _ _ _ (Nat.zero_le _) (by omega) (by omega) (by simp) h

/-- What a token says of its place. -/
def AtB (s : ByteArray) (x : Tk) : Prop :=
  x.at_ < s.size ∧ (x.kind = 1 → bt s x.at_ = 39) ∧ (x.kind = 2 → bt s x.at_ = 34) ∧ (¬ x.kind = 1 → ¬ x.kind = 2 → ∃ fin, x.at_ ≤ fin ∧ fin ≤ s.size ∧ x.text = s.extract x.at_ fin)
theorem tok_at {s : ByteArray} {i fin : Nat} {kind : Int} {text : ByteArray} (hi : i < s.size) (h : tokN s i = .ok kind text fin) : AtB s ⟨kind, text, i⟩ := by
  have hlt := tok_lt hi h
  have hnear : ∀ {k : Int} {e : Nat}, ¬ k = 1 → ¬ k = 2 → near s k i e = .ok kind text fin → AtB s ⟨kind, text, i⟩ := fun h1 h2 hn => by
    obtain ⟨hfe, rfl, htx⟩ := near_fin hn
    exact ⟨hi, fun q => absurd q h1, fun q => absurd q h2, fun _ _ => ⟨fin, by show i ≤ fin; omega, hlt.2, by rw [hfe]; exact htx⟩⟩
  unfold tokN at h
  split at h
  · rename_i hq
    unfold quoR at h
    split at h
    · cases h
    · split at h
      · rename_i h39
        cases h; exact ⟨hi, fun _ => h39, fun q => absurd q (by show ¬ (1 : Int) = 2; decide), fun q => absurd rfl q⟩
      · rename_i h39
        split at h
        · cases h
        · cases h; exact ⟨hi, fun q => absurd q (by show ¬ (2 : Int) = 1; decide), fun _ => by rcases hq with q | q; exact absurd q h39; exact q, fun _ q => absurd rfl q⟩
  · split at h
    · cases h; exact ⟨hi, fun q => absurd q (by show ¬ (6 : Int) = 1; decide), fun q => absurd q (by show ¬ (6 : Int) = 2; decide), fun _ _ => ⟨i + 1, by show i ≤ i + 1; omega, hi, rfl⟩⟩
    · split at h
      · split at h
        · cases h
        · exact hnear (by decide) (by decide) h
      · split at h
        · split at h
          · cases h
          · exact hnear (by decide) (by decide) h
        · split at h
          · split at h
            · exact hnear (by decide) (by decide) h
            · cases h
          · split at h
            · generalize (if cls (bt s (i + 1)).toNat = 2 then runTo s (inner dashes) (i + 1) else i + 1) = E at h
              split at h
              · exact hnear (by decide) (by decide) h
              · cases h
            · cases h
theorem toks_places (s : ByteArray) : ∀ (n i : Nat) (sp : List (Nat × Nat)) (acc l : List Tk) (sp' : List (Nat × Nat)), i ≤ s.size → (∀ x ∈ acc, AtB s x ∧ x.at_ < i) → acc.Pairwise (fun a b => a.at_ < b.at_) → toksN s n i sp acc = .ok l sp' →
    (∀ x ∈ l, AtB s x) ∧ l.Pairwise (fun a b => a.at_ < b.at_)
  | 0, i, sp, acc, l, sp', _, h1, h2, h => by simp only [toksN, ScanR.ok.injEq] at h; obtain ⟨rfl, _⟩ := h; exact ⟨fun x hx => (h1 x hx).1, h2⟩
  | n + 1, i, sp, acc, l, sp', hi, h1, h2, h => by
    unfold toksN at h
    split at h
    · cases h
    · rename_i j sp1 hs
      have hj := skip_le s _ _ _ _ _ hi hs
      split at h
      · cases h; exact ⟨fun x hx => (h1 x hx).1, h2⟩
      · rename_i hne
        split at h
        · cases h
        · rename_i kind text fin ht
          have hf := tok_lt (by omega) ht
          refine toks_places s n _ _ _ _ _ hf.2 (fun x hx => ?_) ?_ h
          · rcases List.mem_append.1 hx with hx | hx
            · have := h1 x hx; exact ⟨this.1, by omega⟩
            · simp only [List.mem_singleton] at hx
              subst hx
              exact ⟨tok_at (by omega) ht, hf.1⟩
          · rw [List.pairwise_append]
            refine ⟨h2, by simp, fun a ha b hb => ?_⟩
            simp only [List.mem_singleton] at hb
            subst hb
            have := (h1 a ha).2
            show a.at_ < j
            omega
theorem scan_places {s : ByteArray} {l : List Tk} {sp : List (Nat × Nat)} (h : scanN s = .ok l sp) : (∀ x ∈ l, AtB s x) ∧ l.Pairwise (fun a b => a.at_ < b.at_) := by
  unfold scanN at h
  split at h
  · cases h
  · exact toks_places s _ _ _ _ _ _ (Nat.zero_le _) (by simp) .nil h
end Go.Proofs.YtmapaagdaojpaaaGreatDoor
