/- Plain law: the tokens of a text up to one of them are those of the text up to its place. -/
import Derived.Test.YtmapaagdaojpaaaGreatDoorSc
namespace Go.Proofs.YtmapaagdaojpaaaGreatDoor

/-- t is s up to place p. -/
structure Cut (s t : ByteArray) (p : Nat) : Prop where
  size : t.size = p
  le : p ≤ s.size
  byte : ∀ i, i < p → bt t i = bt s i
  bu : ∀ i, i < p → bu t i = bu s i
  text : ∀ i j, j ≤ p → t.extract i j = s.extract i j
theorem cut_of (s : ByteArray) (p : Nat) (h : p ≤ s.size) : Cut s (s.extract 0 p) p := by
  have hs : (s.extract 0 p).size = p := by rw [ByteArray.size_extract]; omega
  have hb : ∀ i, i < p → Proofs.YtmapaagdaojpaaaGreatDoor.bu (s.extract 0 p) i = Proofs.YtmapaagdaojpaaaGreatDoor.bu s i := fun i hi => by
    unfold Proofs.YtmapaagdaojpaaaGreatDoor.bu
    rw [dif_pos (by omega), dif_pos (by omega), ByteArray.getElem_extract]
    simp
  refine ⟨hs, h, fun i hi => by rw [bt_bu, bt_bu, hb i hi], hb, fun i j hj => ?_⟩
  rw [ByteArray.extract_extract]
  congr 1 <;> omega
section
variable {s t : ByteArray} {p : Nat}
theorem Cut.out (h : Cut s t p) {i : Nat} (hi : p ≤ i) : bt t i = 0 := bt_out (by rw [h.size]; exact hi)
theorem runN_pre (h : Cut s t p) (q : Int → Bool) : ∀ (n i m : Nat), i ≤ p → p - i ≤ m → s.size - i ≤ n → runN s q n i ≤ p → runN t q m i = runN s q n i
  | 0, i, m, h1, h2, h3, h4 => by
    have := h.le
    cases m with
    | zero => rfl
    | succ m =>
      show runN t q (m + 1) i = i
      rw [runN, if_neg (by rw [h.size]; omega)]
  | n + 1, i, m, h1, h2, h3, h4 => by
    unfold runN at h4
    cases m with
    | zero =>
      have hip : i = p := by omega
      split at h4
      · have := runN_le s q n (i + 1)
        have hl : i < s.size := by rename_i hc; exact hc.1
        have := (runN_le s q (s.size - (i + 1)) (i + 1) (by omega)).1
        have h5 : runN s q n (i + 1) = runN s q (s.size - (i + 1)) (i + 1) := runN_fuel s q _ _ _ (by omega) (by omega)
        omega
      · rename_i hc; rw [runN, runN, if_neg hc]
    | succ m =>
      rw [runN, runN]
      split at h4
      · rename_i hc
        have h5 : runN s q n (i + 1) = runN s q (s.size - (i + 1)) (i + 1) := runN_fuel s q _ _ _ (by omega) (by omega)
        have h6 := (runN_le s q (s.size - (i + 1)) (i + 1) (by omega)).1
        have hip : i < p := by omega
        rw [if_pos hc, if_pos (by rw [h.size, h.byte i hip]; exact ⟨hip, hc.2⟩)]
        exact runN_pre h q n (i + 1) m (by omega) (by omega) (by omega) h4
      · rename_i hc
        rw [if_neg hc]
        by_cases hip : i < p
        · rw [if_neg (by rw [h.byte i hip]; have := h.le; intro q; exact hc ⟨by omega, q.2⟩)]
        · rw [if_neg (by rw [h.size]; omega)]
where
  runN_fuel (s : ByteArray) (q : Int → Bool) : ∀ (n m i : Nat), s.size - i ≤ n → s.size - i ≤ m → runN s q n i = runN s q m i
    | 0, 0, _, _, _ => rfl
    | 0, m + 1, i, h1, _ => by rw [runN, runN, if_neg (by omega)]
    | n + 1, 0, i, _, h2 => by rw [runN, runN, if_neg (by omega)]
    | n + 1, m + 1, i, h1, h2 => by
      rw [runN, runN]
      split
      · exact runN_fuel s q n m (i + 1) (by omega) (by omega)
      · rfl
theorem runTo_pre (h : Cut s t p) (q : Int → Bool) {i : Nat} (hi : i ≤ p) (hr : runTo s q i ≤ p) : runTo t q i = runTo s q i := by
  unfold runTo at hr ⊢
  exact runN_pre h q _ i _ hi (by rw [h.size]; omega) (Nat.le_refl _) hr
theorem comN_pre (h : Cut s t p) {e : Nat} (he : e ≤ p) : ∀ (n i m : Nat), comN s n i = some e → e - i ≤ m + 1 → comN t m i = some e
  | 0, i, m, h1, _ => by simp [comN] at h1
  | n + 1, i, m, h1, h2 => by
    have hl := comN_le s _ _ _ h1
    unfold comN at h1
    split at h1
    · rename_i hi
      cases m with
      | zero =>
        split at h1
        · cases h1; omega
        · have := comN_le s _ _ _ h1
          have h3 : ∀ n, comN s n (i + 1) = some e → i + 3 ≤ e := fun n hn => by
            cases n with
            | zero => simp [comN] at hn
            | succ n =>
              unfold comN at hn
              split at hn
              · split at hn
                · cases hn; omega
                · have := comN_le s _ _ _ hn; omega
              · cases hn
          have := h3 n h1; omega
      | succ m =>
        rw [comN]
        split at h1
        · rename_i hb
          cases h1
          rw [if_pos (by rw [h.size]; omega), h.byte i (by omega), h.byte (i + 1) (by omega), if_pos hb]
        · rename_i hb
          have h3 := comN_le s _ _ _ h1
          rw [if_pos (by rw [h.size]; omega), h.byte i (by omega), h.byte (i + 1) (by omega), if_neg hb]
          exact comN_pre h he n (i + 1) m h1 (by omega)
    · cases h1
theorem comEnd_pre (h : Cut s t p) {e i : Nat} (he : e ≤ p) (h1 : comEnd s i = some e) : comEnd t i = some e := by
  have := comN_le s _ _ _ h1
  exact comN_pre h he _ i _ h1 (by rw [h.size]; omega)
theorem isStar_pre (h : Cut s t p) {i : Nat} (hi : i < p) : isStar t i = isStar s i := by
  unfold isStar; rw [h.byte i hi, h.byte (i - 1) (by omega)]
theorem isOpen_pre (h : Cut s t p) {i : Nat} (hi : i < p) (ho : isOpen s i = false) : isOpen t i = false := by
  by_cases h1 : i + 1 < p
  · unfold isOpen at ho ⊢; rw [h.byte i hi, h.byte (i + 1) h1]; exact ho
  · unfold isOpen; rw [h.out (i := i + 1) (by omega)]; simp
theorem isOpen_pre' (h : Cut s t p) {i : Nat} (hi : i + 1 < p) : isOpen t i = isOpen s i := by
  unfold isOpen; rw [h.byte i (by omega), h.byte (i + 1) hi]
theorem star_lt' {s : ByteArray} {i : Nat} (hi : i < s.size) (hst : isStar s i = true) : i < lineEnd s i ∧ lineEnd s i ≤ s.size := by
  have hb : notLf (bt s i) = true := by
    unfold isStar at hst; simp only [Bool.and_eq_true, beq_iff_eq] at hst
    unfold notLf; rw [hst.1]; rfl
  unfold lineEnd
  rw [runTo_step hi hb]
  have := runTo_le s notLf (i + 1) (by omega)
  omega
theorem skip_pre (h : Cut s t p) : ∀ (n i : Nat) (sp : List (Nat × Nat)) (j : Nat) (sp' : List (Nat × Nat)) (m : Nat), s.size - i < n → i ≤ p → j ≤ p → p - i < m → skipN s n i sp = .ok j sp' → skipN t m i sp = .ok j sp'
  | 0, i, sp, j, sp', m, hn, _, _, _, _ => by omega
  | n + 1, i, sp, j, sp', m, hn, hi, hj, hm, hs => by
    have hle := h.le
    obtain ⟨m, rfl⟩ : ∃ k, m = k + 1 := ⟨m - 1, by omega⟩
    have hij := skip_le s _ _ _ _ _ (by omega) hs
    unfold skipN at hs
    rw [skipN, h.size]
    split at hs
    · rename_i hlt
      split at hs
      · rename_i hw
        have h2 := skip_le s _ _ _ _ _ (by omega) hs
        rw [if_pos (by omega), h.byte i (by omega), if_pos hw]
        exact skip_pre h n _ _ _ _ m (by omega) (by omega) hj (by omega) hs
      · rename_i hw
        split at hs
        · rename_i hst
          have hl := star_lt' hlt hst
          have h2 := skip_le s _ _ _ _ _ hl.2 hs
          have he : lineEnd t i = lineEnd s i := runTo_pre h _ hi (by unfold lineEnd at h2; omega)
          rw [if_pos (by omega), h.byte i (by omega), if_neg hw, isStar_pre h (by omega), if_pos hst, he]
          exact skip_pre h n _ _ _ _ m (by omega) (by omega) hj (by omega) hs
        · rename_i hst
          split at hs
          · rename_i ho
            split at hs
            · cases hs
            · rename_i e he
              have hl := comN_le s _ _ _ he
              have h2 := skip_le s _ _ _ _ _ hl.2 hs
              rw [if_pos (by omega), h.byte i (by omega), if_neg hw, isStar_pre h (by omega), if_neg hst, isOpen_pre' h (by omega), if_pos ho, comEnd_pre h (by omega) he]
              exact skip_pre h n _ _ _ _ m (by omega) (by omega) hj (by omega) hs
          · rename_i ho
            cases hs
            by_cases hip : i < p
            · rw [if_pos hip, h.byte i hip, if_neg hw, isStar_pre h hip, if_neg hst, isOpen_pre h hip (by simpa using ho)]; rfl
            · rw [if_neg hip]
    · rename_i hlt
      cases hs
      rw [if_neg (by omega)]
end
/-- t agrees with s on a token's bytes, and behind it has the same byte, or none, or a blank. -/
structure Agree (s t : ByteArray) (i fin : Nat) : Prop where
  le : fin ≤ t.size
  le' : fin ≤ s.size
  byte : ∀ x, i ≤ x → x < fin → bt t x = bt s x
  bu : ∀ x, i ≤ x → x < fin → bu t x = bu s x
  text : t.extract i fin = s.extract i fin
  fin : (bt t fin = bt s fin ∧ (fin < t.size ↔ fin < s.size)) ∨ bt t fin = 0 ∨ bt t fin = 32 ∨ bt t fin = 10
theorem Cut.agree {s t : ByteArray} {p : Nat} (h : Cut s t p) {i fin : Nat} (hf : fin ≤ p) : Agree s t i fin := by
  have := h.le
  refine ⟨by rw [h.size]; exact hf, by omega, fun x _ hx => h.byte x (by omega), fun x _ hx => h.bu x (by omega), h.text _ _ hf, ?_⟩
  by_cases h1 : fin < p
  · exact .inl ⟨h.byte _ h1, by rw [h.size]; omega⟩
  · exact .inr (.inl (h.out (by omega)))
section
variable {s t : ByteArray} {a fin : Nat}
theorem runTo_same (h : Agree s t a fin) (q : Int → Bool) (hq : q 0 = false ∧ q 32 = false ∧ q 10 = false) : ∀ (k i : Nat), fin - i = k → a ≤ i → i ≤ fin → runTo s q i = fin → runTo t q i = fin
  | 0, i, hk, ha, hi, hr => by
    obtain rfl : i = fin := by omega
    have hs : ¬ (i < s.size ∧ q (bt s i) = true) := by
      rintro ⟨h1, h2⟩
      rw [runTo_step h1 h2] at hr
      have := runTo_le s q (i + 1) (by omega)
      omega
    refine runTo_stop ?_
    rintro ⟨h1, h2⟩
    rcases h.fin with ⟨e, hz⟩ | e | e | e
    · exact hs ⟨hz.1 h1, by rw [← e]; exact h2⟩
    all_goals (rw [e] at h2; simp [hq] at h2)
  | k + 1, i, hk, ha, hi, hr => by
    have h1 := h.le
    have h2 := h.le'
    by_cases hc : q (bt s i) = true
    · rw [runTo_step (by omega) (by rw [h.byte i ha (by omega)]; exact hc)]
      rw [runTo_step (by omega) hc] at hr
      exact runTo_same h q hq k (i + 1) (by omega) (by omega) (by omega) hr
    · rw [runTo_stop (fun q => hc q.2)] at hr; omega
theorem inner_blank (more : ByteArray) (h : more = none8 ∨ more = dashes) : inner more 0 = false ∧ inner more 32 = false ∧ inner more 10 = false := by
  rcases h with rfl | rfl <;> decide
theorem quo_same (h : Agree s t a fin) {mark : Int} (hm : ¬ mark = 0) : ∀ (n i : Nat) (out out' : List UInt8) (m : Nat), a ≤ i → fin - i ≤ m → quoN s mark n i out = .ok out' fin → quoN t mark m i out = .ok out' fin
  | 0, i, out, out', m, _, _, hq => by simp [quoN] at hq
  | n + 1, i, out, out', m, ha, hk, hq => by
    have hle := h.le
    have hij := quo_le s mark hm _ _ _ _ _ hq
    obtain ⟨m, rfl⟩ : ∃ k, m = k + 1 := ⟨m - 1, by omega⟩
    unfold quoN at hq
    rw [quoN, h.byte i ha (by omega)]
    split at hq
    · rename_i hb; cases hq; rw [if_pos hb]
    · rename_i hb
      rw [if_neg hb]
      split at hq
      · cases hq
      · rename_i hb2
        rw [if_neg (by omega)]
        split at hq
        · rename_i h92
          have h3 := quo_le s mark hm _ _ _ _ _ hq
          rw [if_pos h92, h.bu i ha (by omega)]
          exact quo_same h hm n _ _ _ m (by omega) (by omega) hq
        · rename_i h92
          rw [if_neg h92]
          split at hq
          · rename_i mm hmm
            have h3 := quo_le s mark hm _ _ _ _ _ hq
            rw [h.byte (i + 1) (by omega) (by omega), hmm]
            exact quo_same h hm n _ _ _ m (by omega) (by omega) hq
          · rename_i hmm
            split at hq
            · cases hq
            · rename_i hx
              split at hq
              · rename_i x y hx1 hy1
                have h3 := quo_le s mark hm _ _ _ _ _ hq
                rw [h.byte (i + 1) (by omega) (by omega), h.byte (i + 2) (by omega) (by omega), h.byte (i + 3) (by omega) (by omega), hmm, hx1, hy1]
                dsimp only
                rw [if_neg hx]
                exact quo_same h hm n _ _ _ m (by omega) (by omega) hq
              · cases hq
theorem near_same {i : Nat} (h : Agree s t i fin) {k kind : Int} {f e : Nat} {text : ByteArray} (he : e = fin) (hn : near s k i e = .ok kind text f) : near t k i e = .ok kind text f := by
  subst he
  unfold near at hn ⊢
  split at hn
  · cases hn
  · rename_i hb
    have : nearB t e = false := by
      unfold nearB at hb ⊢
      rcases h.fin with ⟨q, hz⟩ | q | q | q
      · rw [q, show decide (e < t.size) = decide (e < s.size) from by simp [hz]]; simpa using hb
      all_goals (rw [q]; simp; intro _; decide)
    rw [this, h.text]
    simpa using hn
/-- A token's text, wherever it stands with no token directly behind. -/
theorem tok_same {i : Nat} {kind : Int} {text : ByteArray} (h : Agree s t i fin) (hi : i < s.size) (hk : tokN s i = .ok kind text fin) : tokN t i = .ok kind text fin := by
  have hle := h.le
  have hlt := tok_lt hi hk
  have hb := h.byte i (Nat.le_refl _) (by omega)
  have hb1 : bt t (i + 1) = bt s (i + 1) ∨ (¬ bt t (i + 1) = 46 ∧ fin = i + 1) := by
    by_cases h1 : i + 1 < fin
    · exact .inl (h.byte _ (by omega) h1)
    · have e : fin = i + 1 := by omega
      rcases h.fin with ⟨q, _⟩ | q | q | q
      · exact .inl (e ▸ q)
      all_goals exact .inr ⟨by rw [← e, q]; decide, e⟩
  unfold tokN at hk ⊢
  rw [hb]
  split at hk
  · rename_i hq
    rw [if_pos hq]
    unfold quoR at hk ⊢
    split at hk
    · cases hk
    · rename_i out f hqq
      have hm : ¬ bt s i = 0 := by rcases hq with q | q <;> omega
      have h2 := quo_le s _ hm _ _ _ _ _ hqq
      have hff : f = fin := by
        split at hk
        · cases hk; rfl
        · split at hk
          · cases hk
          · cases hk; rfl
      subst hff
      rw [quo_same h hm _ _ _ _ (t.size - i) (by omega) (by omega) hqq]
      exact hk
  · rename_i hq
    rw [if_neg hq]
    split at hk
    · rename_i h4
      have htx := h.text
      cases hk
      rw [if_pos h4, htx]
    · rename_i h4
      rw [if_neg h4]
      split at hk
      · rename_i hv
        split at hk
        · cases hk
        · rename_i hl
          obtain ⟨hfe, _, _⟩ := near_fin hk
          have hr : runTo t (inner none8) (i + 2) = runTo s (inner none8) (i + 2) := by
            rw [← hfe]; exact runTo_same h _ (inner_blank _ (.inl rfl)) _ _ rfl (by omega) (by omega) hfe.symm
          have hbb : bt t (i + 1) = bt s (i + 1) := by rcases hb1 with e | e; exact e; omega
          rw [hbb, if_pos hv, hr, if_neg hl]
          exact near_same h hfe.symm hk
      · rename_i hv
        have hv2 : ¬ (steB (bt s i) = true ∧ bt t (i + 1) = 46) := by
          rcases hb1 with e | e
          · rw [e]; exact hv
          · exact fun q => e.1 q.2
        rw [if_neg hv2]
        split at hk
        · rename_i h2
          rw [if_pos h2]
          split at hk
          · cases hk
          · rename_i hl
            obtain ⟨hfe, _, _⟩ := near_fin hk
            have hr : runTo t (inner dashes) i = runTo s (inner dashes) i := by
              rw [← hfe]; exact runTo_same h _ (inner_blank _ (.inr rfl)) _ _ rfl (by omega) (by omega) hfe.symm
            rw [hr, if_neg hl]
            exact near_same h hfe.symm hk
        · rename_i h2
          rw [if_neg h2]
          split at hk
          · rename_i h3
            have h3' : cls (bt s i).toNat = 3 ∨ (bt s i = 45 ∧ cls (bt t (i + 1)).toNat = 3) := by
              rcases h3 with q | q
              · exact .inl q
              · refine .inr ⟨q.1, ?_⟩
                rcases hb1 with e | e
                · rw [e]; exact q.2
                · split at hk
                  · obtain ⟨hfe, _, _⟩ := near_fin hk
                    have h1 : i + 1 < s.size := Nat.lt_of_not_le fun qq => by rw [bt_out qq] at q; exact absurd q.2 (by decide)
                    have hd : digE s (i + 1) = digE s (i + 2) := runTo_step h1 (by simp [q.2])
                    have := runTo_le s (fun c => cls c.toNat == 3) (i + 2) (by omega)
                    unfold digE at hd hfe
                    omega
                  · cases hk
            rw [if_pos h3']
            split at hk
            · rename_i hnum
              obtain ⟨hfe, _, _⟩ := near_fin hk
              have he : digE t (i + 1) = digE s (i + 1) := by
                rw [← hfe]; exact runTo_same h _ ⟨by decide, by decide, by decide⟩ _ _ rfl (by omega) (by omega) hfe.symm
              have htx : t.extract i (digE s (i + 1)) = s.extract i (digE s (i + 1)) := by rw [← hfe]; exact h.text
              rw [he, htx, if_pos hnum]
              exact near_same h hfe.symm hk
            · cases hk
          · rename_i h3
            split at hk
            · rename_i h36
              have hc0 : cls (bt s i).toNat = 0 := by rw [h36]; decide
              have h3' : ¬ (cls (bt s i).toNat = 3 ∨ (bt s i = 45 ∧ cls (bt t (i + 1)).toNat = 3)) := by rw [hc0, h36]; simp
              rw [if_neg h3', if_pos h36]
              generalize hE : (if cls (bt s (i + 1)).toNat = 2 then runTo s (inner dashes) (i + 1) else i + 1) = E at hk
              split at hk
              · rename_i hkey
                obtain ⟨hfe, _, _⟩ := near_fin hk
                have hlen : fin ≠ i + 1 := by
                  intro e
                  rw [← hfe, e] at hkey
                  have h1 : (s.extract i (i + 1)).toList.length = 1 := by
                    rw [Lib.toList_data, Array.length_toList]
                    show (s.extract i (i + 1)).size = 1
                    rw [ByteArray.size_extract]; omega
                  unfold isKeyB at hkey
                  generalize (s.extract i (i + 1)).toList = l at h1 hkey
                  match l, h1 with
                  | [_], _ => simp at hkey
                have hbb : bt t (i + 1) = bt s (i + 1) := by rcases hb1 with e | e; exact e; exact absurd e.2 hlen
                rw [hbb]
                by_cases hc : cls (bt s (i + 1)).toNat = 2
                · rw [if_pos hc] at hE
                  have hr : runTo t (inner dashes) (i + 1) = E := by
                    rw [← hfe]; exact runTo_same h _ (inner_blank _ (.inr rfl)) _ _ rfl (by omega) (by omega) (by rw [hE, hfe])
                  have htx : t.extract i E = s.extract i E := by rw [← hfe]; exact h.text
                  rw [if_pos hc, hr, htx, if_pos hkey]
                  exact near_same h hfe.symm hk
                · rw [if_neg hc] at hE; omega
              · cases hk
            · cases hk
end
theorem tok_pre {s t : ByteArray} {p i fin : Nat} {kind : Int} {text : ByteArray} (h : Cut s t p) (hi : i < s.size) (hf : fin ≤ p) (hk : tokN s i = .ok kind text fin) : tokN t i = .ok kind text fin :=
  tok_same (h.agree hf) hi hk

theorem toks_acc (s : ByteArray) : ∀ (n i : Nat) (sp : List (Nat × Nat)) (acc l : List Tk) (sp' : List (Nat × Nat)), i ≤ s.size → toksN s n i sp acc = .ok l sp' → ∃ r, l = acc ++ r ∧ (∀ x ∈ r, i ≤ x.at_ ∧ x.at_ < s.size)
  | 0, i, sp, acc, l, sp', _, h => by simp only [toksN, ScanR.ok.injEq] at h; exact ⟨[], by simp [h.1], by simp⟩
  | n + 1, i, sp, acc, l, sp', hi, h => by
    unfold toksN at h
    split at h
    · cases h
    · rename_i j sp1 hs
      have hj := skip_le s _ _ _ _ _ hi hs
      split at h
      · cases h; exact ⟨[], by simp, by simp⟩
      · rename_i hne
        split at h
        · cases h
        · rename_i kind text fin ht
          have hf := tok_lt (by omega) ht
          obtain ⟨r, hr, hall⟩ := toks_acc s n _ _ _ _ _ hf.2 h
          refine ⟨⟨kind, text, j⟩ :: r, by simp [hr], fun x hx => ?_⟩
          rcases List.mem_cons.1 hx with rfl | hx
          · exact ⟨hj.1, by show j < s.size; omega⟩
          · have := hall x hx; omega
theorem toks_pre {s t : ByteArray} {p k : Nat} {l : List Tk} {spf : List (Nat × Nat)} (h : Cut s t p) (hk : k < l.length) (hp : l[k].at_ = p) : ∀ (n i : Nat) (sp : List (Nat × Nat)) (acc : List Tk) (m : Nat), i ≤ p → p - i < m → acc.length ≤ k →
    toksN s n i sp acc = .ok l spf → ∃ sp', toksN t m i sp acc = .ok (l.take k) sp'
  | 0, i, sp, acc, m, hi, hm, ha, hs => by simp only [toksN, ScanR.ok.injEq] at hs; rw [← hs.1] at hk; omega
  | n + 1, i, sp, acc, m, hi, hm, ha, hs => by
    have hle := h.le
    obtain ⟨m, rfl⟩ : ∃ q, m = q + 1 := ⟨m - 1, by omega⟩
    unfold toksN at hs
    split at hs
    · cases hs
    · rename_i j sp1 hsk
      have hj := skip_le s _ _ _ _ _ (by omega) hsk
      split at hs
      · cases hs; omega
      · rename_i hne
        split at hs
        · cases hs
        · rename_i kind text fin ht
          have hf := tok_lt (by omega) ht
          obtain ⟨r, hr, hall⟩ := toks_acc s n _ _ _ _ _ hf.2 hs
          by_cases hak : acc.length = k
          · have hlk : l[k] = ⟨kind, text, j⟩ := by
              simp only [hr, ← hak]; simp
            have hjp : j = p := by rw [← hp, hlk]
            have hskt := skip_pre h _ i sp j sp1 (t.size + 1) (by omega) hi (by omega) (by rw [h.size]; omega) hsk
            refine ⟨sp1, ?_⟩
            rw [toksN, hskt]
            dsimp only
            rw [if_pos (by rw [h.size]; exact hjp), hr, ← hak]
            simp
          · have hlk : l[k] ∈ r := by
              have h1 : l[k] = r[k - (acc ++ [(⟨kind, text, j⟩ : Tk)]).length]'(by have : l.length = _ := congrArg List.length hr; simp at this ⊢; omega) := by
                simp only [hr]
                rw [List.getElem_append_right (by simp; omega)]
              rw [h1]; exact List.getElem_mem _
            have hpf : fin ≤ p := by have := hall _ hlk; omega
            have hskt := skip_pre h _ i sp j sp1 (t.size + 1) (by omega) hi (by omega) (by rw [h.size]; omega) hsk
            have htt := tok_pre h (by omega) hpf ht
            obtain ⟨sp2, h2⟩ := toks_pre h hk hp n fin sp1 _ m hpf (by omega) (by simp; omega) hs
            refine ⟨sp2, ?_⟩
            rw [toksN, hskt]
            dsimp only
            rw [if_neg (by rw [h.size]; omega), htt]
            exact h2
/-- **The tokens of a text up to one of them are those of the text up to its place.** -/
theorem scan_prefix {s : ByteArray} {l : List Tk} {sp : List (Nat × Nat)} (h : scanN s = .ok l sp) {k : Nat} (hk : k < l.length) : l[k].at_ ≤ s.size ∧ ∃ sp', scanN (s.extract 0 l[k].at_) = .ok (l.take k) sp' := by
  unfold scanN at h
  split at h
  · cases h
  · rename_i hs
    obtain ⟨r, hr, hall⟩ := toks_acc s _ _ _ _ _ _ (Nat.zero_le _) h
    simp only [List.nil_append] at hr
    have hlt : l[k].at_ < s.size := (hall _ (hr ▸ List.getElem_mem hk)).2
    have hc := cut_of s l[k].at_ (by omega)
    refine ⟨by omega, ?_⟩
    obtain ⟨sp', h2⟩ := toks_pre hc hk rfl _ 0 [] [] ((s.extract 0 l[k].at_).size + 1) (Nat.zero_le _) (by rw [hc.size]; omega) (Nat.zero_le _) h
    refine ⟨sp', ?_⟩
    unfold scanN
    rw [if_neg (by rw [hc.size]; omega)]
    exact h2
end Go.Proofs.YtmapaagdaojpaaaGreatDoor
