/- Plain: what a written token is read as again. Plain: every right token is read back as it was. Plain: right tokens with gaps between them are read back. -/
import Derived.Test.YtmapaagdaojpaaaGreatDoorQx
import Derived.Test.YtmapaagdaojpaaaGreatDoorPx
namespace Go.Proofs.YtmapaagdaojpaaaGreatDoor

/-- A text has these bytes from a place on. -/
def Has (s : ByteArray) (i : Nat) (l : List UInt8) : Prop := l <+: s.data.toList.drop i
theorem has_nil (s : ByteArray) (i : Nat) : Has s i [] := List.nil_prefix
theorem has_cons {s : ByteArray} {i : Nat} {x : UInt8} {l : List UInt8} : Has s i (x :: l) ↔ i < s.size ∧ bu s i = x ∧ Has s (i + 1) l := by
  unfold Has
  constructor
  · intro h
    have hi : i < s.size := by
      rcases Nat.lt_or_ge i s.size with q | q
      · exact q
      · rw [drop_end q] at h; exact absurd (List.prefix_nil.1 h) (by simp)
    rw [drop_cons hi, List.cons_prefix_cons] at h
    refine ⟨hi, ?_, h.2⟩
    unfold bu; rw [dif_pos hi]; exact h.1.symm
  · rintro ⟨hi, hb, h⟩
    rw [drop_cons hi, List.cons_prefix_cons]
    refine ⟨?_, h⟩
    unfold bu at hb; rw [dif_pos hi] at hb; exact hb.symm
theorem has_app {s : ByteArray} : ∀ {a : List UInt8} {i : Nat} {b : List UInt8}, Has s i (a ++ b) ↔ Has s i a ∧ Has s (i + a.length) b
  | [], i, b => by simp [has_nil]
  | x :: a, i, b => by
    rw [List.cons_append, has_cons, has_cons, has_app, List.length_cons, show i + 1 + a.length = i + (a.length + 1) by omega]
    simp only [and_assoc]
theorem has_le {s : ByteArray} : ∀ {l : List UInt8} {i : Nat}, Has s i l → i ≤ s.size → i + l.length ≤ s.size
  | [], i, _, h => by simpa using h
  | x :: l, i, h, _ => by
    obtain ⟨h1, _, h3⟩ := has_cons.1 h
    have := has_le h3 h1
    simp only [List.length_cons]; omega
theorem has_bt {s : ByteArray} : ∀ {l : List UInt8} {i : Nat}, Has s i l → ∀ (j : Nat) (hj : j < l.length), bt s (i + j) = (l[j].toNat : Int)
  | [], i, _, j, hj => by simp at hj
  | x :: l, i, h, j, hj => by
    obtain ⟨h1, h2, h3⟩ := has_cons.1 h
    cases j with
    | zero => rw [Nat.add_zero, bt_bu, h2]; rfl
    | succ j =>
      rw [show i + (j + 1) = i + 1 + j by omega, has_bt h3 j (by simpa using hj)]; rfl
theorem has_bu {s : ByteArray} {l : List UInt8} {i : Nat} (h : Has s i l) (j : Nat) (hj : j < l.length) : bu s (i + j) = l[j] := by
  have := has_bt h j hj
  rw [bt_bu] at this
  exact UInt8.toNat_inj.1 (by omega)
theorem has_text {s t : ByteArray} {i : Nat} (h : Has s i t.data.toList) (j : Nat) (hj : j < t.size) : bt s (i + j) = bt t j := by
  have hl : t.data.toList.length = t.size := Array.length_toList
  rw [has_bt h j (by omega), ← bt_in hj, Array.getElem_toList]; rfl
theorem has_extract {s t : ByteArray} {i : Nat} (h : Has s i t.data.toList) (hi : i ≤ s.size) : s.extract i (i + t.size) = t := by
  have hl : t.data.toList.length = t.size := Array.length_toList
  have hle := has_le h hi
  apply ByteArray.ext_getElem
  · rw [ByteArray.size_extract]; omega
  · intro j h1 h2
    have e := has_text h j h2
    rw [ByteArray.getElem_extract]
    rw [← bt_in h2, ← bt_in (show i + j < s.size by omega)] at e
    exact UInt8.toNat_inj.1 (by omega)
theorem run_is {s : ByteArray} {p : Int → Bool} : ∀ {n i : Nat}, (∀ j, j < n → p (bt s (i + j)) = true) → i + n ≤ s.size → ¬ (i + n < s.size ∧ p (bt s (i + n)) = true) → runTo s p i = i + n
  | 0, i, _, _, h3 => runTo_stop h3
  | n + 1, i, h1, h2, h3 => by
    have h0 := h1 0 (by omega)
    rw [Nat.add_zero] at h0
    rw [runTo_step (by omega) h0, run_is (n := n) (i := i + 1) (fun j hj => by rw [show i + 1 + j = i + (j + 1) by omega]; exact h1 (j + 1) (by omega)) (by omega) (by rw [show i + 1 + n = i + (n + 1) by omega]; exact h3)]
    omega

/-! ### Quotations -/
theorem back_esc39 : ∀ i : Fin 256, (match backF 39 (UInt8.ofNat i.val) with | some e => decide (escF 39 e.toNat = some (i.val : Int)) | none => decide (¬ i.val = 39 ∧ ¬ i.val = 92)) = true := by decide +kernel
theorem back_esc34 : ∀ i : Fin 256, (match backF 34 (UInt8.ofNat i.val) with | some e => decide (escF 34 e.toNat = some (i.val : Int)) | none => decide (¬ i.val = 34 ∧ ¬ i.val = 92)) = true := by decide +kernel
theorem hex_back : ∀ i : Fin 256, hexv (hexd (i.val / 16)).toNat = some ((i.val / 16 : Nat) : Int) ∧ hexv (hexd (i.val % 16)).toNat = some ((i.val % 16 : Nat) : Int) ∧ hex2 ((i.val / 16 : Nat) : Int) ((i.val % 16 : Nat) : Int) = UInt8.ofNat i.val := by decide +kernel
theorem back_some {mark b e : UInt8} (hm : mark = 39 ∨ mark = 34) (h : backF mark b = some e) : escF mark.toNat e.toNat = some (b.toNat : Int) := by
  rcases hm with rfl | rfl
  · have := back_esc39 ⟨b.toNat, b.toNat_lt⟩
    dsimp only at this
    rw [UInt8.ofNat_toNat, h] at this
    simpa using this
  · have := back_esc34 ⟨b.toNat, b.toNat_lt⟩
    dsimp only at this
    rw [UInt8.ofNat_toNat, h] at this
    simpa using this
theorem back_none {mark b : UInt8} (hm : mark = 39 ∨ mark = 34) (h : backF mark b = none) : ¬ b.toNat = mark.toNat ∧ ¬ b.toNat = 92 := by
  rcases hm with rfl | rfl
  · have := back_esc39 ⟨b.toNat, b.toNat_lt⟩
    dsimp only at this
    rw [UInt8.ofNat_toNat, h] at this
    simpa using this
  · have := back_esc34 ⟨b.toNat, b.toNat_lt⟩
    dsimp only at this
    rw [UInt8.ofNat_toNat, h] at this
    simpa using this
theorem quo_back {s : ByteArray} {mark : UInt8} (hm : mark = 39 ∨ mark = 34) : ∀ (tl : List UInt8) (i n : Nat) (out : List UInt8), (mark = 34 → ∀ b ∈ tl, wordP b.toNat = true) → Has s i (tl.flatMap (escB mark) ++ [mark]) → tl.length < n →
    quoN s mark.toNat n i out = .ok (out ++ tl) (i + (tl.flatMap (escB mark)).length + 1)
  | [], i, 0, out, _, _, hn => by simp at hn
  | b :: tl, i, 0, out, _, _, hn => by simp at hn
  | [], i, n + 1, out, _, h, _ => by
    have h1 := (has_cons.1 h).2.1
    rw [quoN, if_pos (by rw [bt_bu]; rw [show bu s i = mark from h1])]
    simp
  | b :: tl, i, n + 1, out, hw, h, hn => by
    have hw2 : mark = 34 → ∀ b ∈ tl, wordP b.toNat = true := fun e x hx => hw e x (List.mem_cons_of_mem _ hx)
    have hm92 : ¬ (92 : Int) = mark.toNat := by rcases hm with rfl | rfl <;> decide
    rw [List.flatMap_cons, List.append_assoc] at h
    obtain ⟨h1, h2⟩ := has_app.1 h
    rw [List.flatMap_cons, List.length_append]
    cases hb : backF mark b with
    | some e =>
      have hesc : escB mark b = [92, e] := by unfold escB; rw [hb]
      rw [hesc] at h1 h2 ⊢
      have b0 := has_bt h1 0 (by simp)
      have b1 := has_bt h1 1 (by simp)
      have hi := (has_cons.1 h1).1
      rw [Nat.add_zero] at b0
      have b0' : bt s i = 92 := b0
      have b1' : bt s (i + 1) = (e.toNat : Int) := b1
      have he := back_some hm hb
      rw [← b1'] at he
      rw [← quo_esc (R := quoN s mark.toNat (n + 1) i out) rfl (by rw [b0']; exact hm92) (by rw [b0']; omega) b0' he]
      have hbb : ((b.toNat : Int)).toNat.toUInt8 = b := by simp
      rw [hbb, quo_back hm tl (i + 2) n (out ++ [b]) hw2 h2 (by simpa using hn)]
      simp only [List.append_assoc, List.cons_append, List.nil_append, List.length_cons, List.length_nil]
      congr 1; omega
    | none =>
      obtain ⟨hne, h92⟩ := back_none hm hb
      by_cases hr : b.toNat < 32 ∨ 126 < b.toNat
      · have hesc : escB mark b = [92, 120, hexd (b.toNat / 16), hexd (b.toNat % 16)] := by
          unfold escB; rw [hb]; show (if _ then _ else _) = _; rw [if_pos hr]
        rw [hesc] at h1 h2 ⊢
        have h39 : mark = 39 := by
          rcases hm with e | e
          · exact e
          · have := hw e b (by simp)
            unfold wordP at this
            simp only [Bool.and_eq_true, decide_eq_true_eq] at this
            omega
        have hi := (has_cons.1 h1).1
        have b0 : bt s i = 92 := by have := has_bt h1 0 (by simp); rw [Nat.add_zero] at this; exact this
        have b1 : bt s (i + 1) = 120 := has_bt h1 1 (by simp)
        have b2 : bt s (i + 2) = ((hexd (b.toNat / 16)).toNat : Int) := has_bt h1 2 (by simp)
        have b3 : bt s (i + 3) = ((hexd (b.toNat % 16)).toNat : Int) := has_bt h1 3 (by simp)
        obtain ⟨x1, x2, x3⟩ := hex_back ⟨b.toNat, b.toNat_lt⟩
        dsimp only at x1 x2 x3
        rw [← b2] at x1
        rw [← b3] at x2
        have hem : escF mark.toNat (bt s (i + 1)) = none := by rw [b1, h39]; decide
        rw [← quo_hex (R := quoN s mark.toNat (n + 1) i out) rfl (by rw [b0]; exact hm92) (by rw [b0]; omega) b0 hem (by rw [h39]; decide) b1 x1 x2]
        rw [x3, UInt8.ofNat_toNat, quo_back hm tl (i + 4) n (out ++ [b]) hw2 h2 (by simpa using hn)]
        simp only [List.append_assoc, List.cons_append, List.nil_append, List.length_cons, List.length_nil]
        congr 1; omega
      · have hesc : escB mark b = [b] := by
          unfold escB; rw [hb]; show (if _ then _ else _) = _; rw [if_neg hr]
        rw [hesc] at h1 h2 ⊢
        have hi := (has_cons.1 h1).1
        have b0 : bt s i = (b.toNat : Int) := by have := has_bt h1 0 (by simp); rw [Nat.add_zero] at this; exact this
        have bb : bu s i = b := (has_cons.1 h1).2.1
        rw [← quo_plain (R := quoN s mark.toNat (n + 1) i out) rfl (by rw [b0]; omega) (by rw [b0]; omega) (by rw [b0]; omega)]
        rw [bb, quo_back hm tl (i + 1) n (out ++ [b]) hw2 h2 (by simpa using hn)]
        simp only [List.append_assoc, List.cons_append, List.nil_append, List.length_cons, List.length_nil]
        congr 1; omega
end Go.Proofs.YtmapaagdaojpaaaGreatDoor
namespace Go.Proofs.YtmapaagdaojpaaaGreatDoor

/-- What holds of all bytes holds of a text's. -/
theorem byte_all {s : ByteArray} {i : Nat} (P : Int → Bool) (h : ∀ x : Fin 256, P (x.val : Int) = true) : P (bt s i) = true := by
  have h1 := bt_lo s i
  have h2 := bt_hi s i
  have := h ⟨(bt s i).toNat, by omega⟩
  rwa [show (((bt s i).toNat : Nat) : Int) = bt s i by omega] at this
/-- A byte that belongs to an identifier, a number, or to a variable's name. -/
def nearC (c : Int) : Bool := cls c.toNat == 2 || cls c.toNat == 3 || c == 45 || c == 95 || c == 46
theorem nearB_is (s : ByteArray) (i : Nat) : nearB s i = (decide (i < s.size) && nearC (bt s i)) := rfl
theorem near_dash : ∀ x : Fin 256, (!inner dashes (x.val : Int) || nearC x.val) = true := by decide +kernel
theorem near_none : ∀ x : Fin 256, (!inner none8 (x.val : Int) || nearC x.val) = true := by decide +kernel
theorem near_dig : ∀ x : Fin 256, (!(cls (x.val : Int).toNat == 3) || nearC x.val) = true := by decide +kernel
theorem near_stop {s : ByteArray} {e : Nat} (p : Int → Bool) (hp : ∀ x : Fin 256, (!p (x.val : Int) || nearC x.val) = true) (h : nearB s e = false) : ¬ (e < s.size ∧ p (bt s e) = true) := by
  rintro ⟨h1, h2⟩
  rw [nearB_is, decide_eq_true h1, Bool.true_and] at h
  have := byte_all (s := s) (i := e) (fun c => !p c || nearC c) hp
  simp only [h2, h, Bool.not_true, Bool.or_false] at this
  cases this
theorem flat_ge (mark : UInt8) : ∀ l : List UInt8, l.length ≤ (l.flatMap (escB mark)).length
  | [] => by simp
  | x :: l => by
    rw [List.flatMap_cons, List.length_append, List.length_cons]
    have h1 : 1 ≤ (escB mark x).length := by
      unfold escB
      split
      · simp
      · split <;> simp
    have := flat_ge mark l
    omega
theorem quoted_has {s t : ByteArray} {i : Nat} {mark : UInt8} (hi : i < s.size) (h : Has s i (quotedB mark t).data.toList) :
    bt s i = mark.toNat ∧ Has s (i + 1) (t.data.toList.flatMap (escB mark) ++ [mark]) ∧ t.data.toList.length < s.size - i ∧ (quotedB mark t).size = (t.data.toList.flatMap (escB mark)).length + 2 := by
  have h' : Has s i (mark :: (t.data.toList.flatMap (escB mark) ++ [mark])) := by
    have : (quotedB mark t).data.toList = mark :: (t.data.toList.flatMap (escB mark) ++ [mark]) := by simp [quotedB, quotedL]
    rwa [this] at h
  obtain ⟨h1, h2, h3⟩ := has_cons.1 h'
  have hle := has_le h3 h1
  have hge := flat_ge mark t.data.toList
  rw [List.length_append] at hle
  simp only [List.length_cons, List.length_nil] at hle
  refine ⟨by rw [bt_bu, h2], h3, by omega, ?_⟩
  show (quotedL mark t).toArray.size = _
  rw [List.size_toArray]
  simp [quotedL]
theorem ok_of {k : Int} {t : ByteArray} (h : chkB k t = 0) : okB k t = true := by
  unfold chkB at h
  by_cases e : okB k t = true
  · exact e
  · rw [if_neg e] at h; cases h
/-- The bytes of a number. -/
theorem num_bytes {t : ByteArray} (h : isNumB t = true) : 1 ≤ t.size ∧ (∀ j, 1 ≤ j → j < t.size → cls (bt t j).toNat = 3) ∧ (cls (bt t 0).toNat = 3 ∨ (bt t 0 = 45 ∧ 2 ≤ t.size)) := by
  rw [← isNumR_eq] at h
  unfold isNumR at h
  rw [Bool.or_eq_true] at h
  rcases h with h | h
  · have hs : t = ⟨#[48]⟩ := data_inj (by rw [← Lib.toList_data]; simpa using h)
    subst hs
    refine ⟨by decide, fun j h1 h2 => ?_, .inl (by decide)⟩
    have : (⟨#[48]⟩ : ByteArray).size = 1 := rfl
    omega
  · unfold isNumL numT at h
    by_cases h45 : bt t 0 = 45
    · rw [if_pos h45] at h
      simp only [Bool.and_eq_true, decide_eq_true_eq] at h
      obtain ⟨⟨⟨h1, h2⟩, h3⟩, _⟩ := h
      rw [ext_size] at h1
      have h4 := (runTo_all _ digP _ 0 rfl (Nat.zero_le _)).1 h3
      refine ⟨by omega, fun j hj1 hj2 => ?_, .inr ⟨h45, by omega⟩⟩
      have := h4 (j - 1) (Nat.zero_le _) (by rw [ext_size]; omega)
      rw [bt_ext, show 1 + (j - 1) = j by omega] at this
      unfold digP at this
      exact beq_iff_eq.1 this
    · rw [if_neg h45] at h
      simp only [Bool.and_eq_true, decide_eq_true_eq] at h
      obtain ⟨⟨⟨h1, h2⟩, h3⟩, _⟩ := h
      have h4 := (runTo_all _ digP _ 0 rfl (Nat.zero_le _)).1 h3
      have hd : ∀ j, j < t.size → cls (bt t j).toNat = 3 := fun j hj => by
        have := h4 j (Nat.zero_le _) hj
        unfold digP at this
        exact beq_iff_eq.1 this
      exact ⟨by omega, fun j _ hj => hd j hj, .inl (hd 0 (by omega))⟩
theorem cls_letter : ∀ x : Fin 256, (!(cls (x.val : Int).toNat == 2) || (!((x.val : Int) == 39) && !((x.val : Int) == 34) && inner dashes x.val && inner none8 x.val)) = true := by decide +kernel
theorem cls_digit : ∀ x : Fin 256, (!(cls (x.val : Int).toNat == 3 || (x.val : Int) == 45) || (!((x.val : Int) == 39) && !((x.val : Int) == 34) && !(cls (x.val : Int).toNat == 4) && !(cls (x.val : Int).toNat == 2) && !steB x.val)) = true := by decide +kernel
theorem cls_sign : ∀ x : Fin 256, (!(cls (x.val : Int).toNat == 4) || (!((x.val : Int) == 39) && !((x.val : Int) == 34))) = true := by decide +kernel
theorem ste_letter : ∀ x : Fin 256, (!steB (x.val : Int) || cls (x.val : Int).toNat == 2) = true := by decide +kernel
theorem inner_dot : ∀ x : Fin 256, (!inner dashes (x.val : Int) || !((x.val : Int) == 46)) = true := by decide +kernel
theorem textB_plain {k : Int} {t : ByteArray} (h1 : ¬ k = 1) (h2 : ¬ k = 2) : textB k t = t := by unfold textB; rw [if_neg h1, if_neg h2]
/-- A right token, where nothing stands behind it that would belong to it, is read as it was written. -/
theorem tok_back {s : ByteArray} {i : Nat} {k : Int} {t : ByteArray} (hi : i < s.size) (hc : chkB k t = 0) (h : Has s i (textB k t).data.toList) (hn : gapK k = true → nearB s (i + (textB k t).size) = false) :
    tokN s i = .ok k t (i + (textB k t).size) := by
  have ho := ok_of hc
  clear hc
  by_cases k1 : k = 1
  · subst k1
    have e : textB 1 t = quotedB 39 t := rfl
    rw [e] at h ⊢
    obtain ⟨h1, h2, h3, h4⟩ := quoted_has hi h
    have h1' : bt s i = 39 := h1
    rw [h4]
    unfold tokN
    rw [if_pos (.inl h1'), h1']
    have := quo_back (s := s) (mark := 39) (.inl rfl) t.data.toList (i + 1) (s.size - i) [] (fun e => by cases e) h2 h3
    rw [show (((39 : UInt8).toNat : Nat) : Int) = 39 from rfl] at this
    rw [this, quoR, if_pos rfl, List.nil_append, Array.toArray_toList]
    congr 1; omega
  by_cases k2 : k = 2
  · subst k2
    have hw : isWordB t = true := ho
    have e : textB 2 t = quotedB 34 t := rfl
    rw [e] at h ⊢
    obtain ⟨h1, h2, h3, h4⟩ := quoted_has hi h
    have h1' : bt s i = 34 := h1
    unfold isWordB at hw
    simp only [Bool.and_eq_true, decide_eq_true_eq] at hw
    obtain ⟨⟨w0, w1⟩, w2⟩ := hw
    have w3 := (runTo_all t wordP _ 0 rfl (Nat.zero_le _)).1 w2
    rw [h4]
    unfold tokN
    rw [if_pos (.inr h1'), h1']
    have := quo_back (s := s) (mark := 34) (.inr rfl) t.data.toList (i + 1) (s.size - i) [] (fun _ => (bt_mem t wordP).2 w3) h2 h3
    rw [show (((34 : UInt8).toNat : Nat) : Int) = 34 from rfl] at this
    have hz : t.data.toList.length = t.size := Array.length_toList
    rw [this, quoR, if_neg (by decide), List.nil_append, hz, if_neg (by omega), Array.toArray_toList]
    congr 1; omega
  rw [textB_plain k1 k2] at h hn ⊢
  have hz : t.data.toList.length = t.size := Array.length_toList
  have hle := has_le h (by omega)
  rw [hz] at hle
  have hex := has_extract h (by omega)
  have hb := fun j hj => has_text h j hj
  by_cases k3 : k = 3
  · subst k3
    have hm : isNameB t = true := ho
    have hnr := hn rfl
    unfold isNameB at hm
    simp only [Bool.and_eq_true, decide_eq_true_eq, beq_iff_eq] at hm
    obtain ⟨⟨⟨m0, m1⟩, m2⟩, m3⟩ := hm
    have m4 := (runTo_all t (inner dashes) _ 1 rfl (by omega)).1 m3
    have hb0 := hb 0 (by omega)
    rw [Nat.add_zero] at hb0
    have c2 : cls (bt s i).toNat = 2 := by rw [hb0]; exact m2
    have hl := byte_all (s := s) (i := i) (fun c => !(cls c.toNat == 2) || (!(c == 39) && !(c == 34) && inner dashes c && inner none8 c)) cls_letter
    simp only [c2, beq_self_eq_true, Bool.not_true, Bool.false_or, Bool.and_eq_true, Bool.not_eq_true', beq_eq_false_iff_ne] at hl
    obtain ⟨⟨⟨l1, l2⟩, l3⟩, _⟩ := hl
    have hrun : runTo s (inner dashes) i = i + t.size := run_is (fun j hj => by
      rcases Nat.eq_zero_or_pos j with e | e
      · subst e; rw [Nat.add_zero]; exact l3
      · rw [hb j hj]; exact m4 j e hj) hle (near_stop _ near_dash hnr)
    have hv : ¬ (steB (bt s i) = true ∧ bt s (i + 1) = 46) := by
      rintro ⟨_, q⟩
      by_cases e : t.size = 1
      · have : i + 1 < s.size := Nat.lt_of_not_le fun r => by rw [bt_out r] at q; cases q
        rw [nearB_is, e, decide_eq_true this, q] at hnr
        exact absurd hnr (by decide)
      · have hd := byte_all (s := s) (i := i + 1) (fun c => !inner dashes c || !(c == 46)) inner_dot
        rw [show inner dashes (bt s (i + 1)) = true by rw [hb 1 (by omega)]; exact m4 1 (Nat.le_refl _) (by omega), q] at hd
        exact absurd hd (by decide)
    have := tok_name (s := s) (i := i) rfl (by rintro (q | q); exact l1 q; exact l2 q) hv c2
    rw [← this, hrun, if_neg (by omega)]
    unfold near
    rw [if_neg (by rw [hnr]; decide), hex]
  by_cases k4 : k = 4
  · subst k4
    have hm : isNumB t = true := ho
    have hnr := hn rfl
    obtain ⟨m0, m1, m2⟩ := num_bytes hm
    have hb0 := hb 0 (by omega)
    rw [Nat.add_zero] at hb0
    rw [← hb0] at m2
    have hd : (cls (bt s i).toNat == 3 || bt s i == 45) = true := by
      rcases m2 with q | q
      · rw [q]; rfl
      · rw [q.1]; rfl
    have hl := byte_all (s := s) (i := i) (fun c => !(cls c.toNat == 3 || c == 45) || (!(c == 39) && !(c == 34) && !(cls c.toNat == 4) && !(cls c.toNat == 2) && !steB c)) cls_digit
    simp only [hd, Bool.not_true, Bool.false_or, Bool.and_eq_true, Bool.not_eq_true', beq_eq_false_iff_ne] at hl
    obtain ⟨⟨⟨⟨l1, l2⟩, l3⟩, l4⟩, l5⟩ := hl
    have hrun : digE s (i + 1) = i + t.size := by
      have := run_is (s := s) (p := fun c => cls c.toNat == 3) (n := t.size - 1) (i := i + 1) (fun j hj => by
        rw [show i + 1 + j = i + (j + 1) by omega, hb (j + 1) (by omega), m1 (j + 1) (by omega) (by omega)]; rfl) (by omega) (by
          rw [show i + 1 + (t.size - 1) = i + t.size by omega]; exact near_stop (fun c => cls c.toNat == 3) near_dig hnr)
      unfold digE
      rw [this]; omega
    have := tok_num (s := s) (i := i) rfl (by rintro (q | q); exact l1 q; exact l2 q) l3 (by rw [l5]; rintro ⟨q, _⟩; cases q) l4 (by
      rcases m2 with q | q
      · exact .inl q
      · exact .inr ⟨q.1, by rw [hb 1 (by omega)]; exact m1 1 (Nat.le_refl _) (by omega)⟩)
    rw [← this, hrun, hex, if_pos hm]
    unfold near
    rw [if_neg (by rw [hnr]; decide), hex]
  by_cases k5 : k = 5
  · subst k5
    have hm : isVarB t = true := ho
    have hnr := hn rfl
    unfold isVarB at hm
    simp only [Bool.and_eq_true, decide_eq_true_eq, beq_iff_eq] at hm
    obtain ⟨⟨⟨⟨m0, m1⟩, m2⟩, m3⟩, m4⟩ := hm
    have m5 := (runTo_all t (inner none8) _ 2 rfl (by omega)).1 m4
    have hb0 := hb 0 (by omega)
    rw [Nat.add_zero] at hb0
    rw [← hb0] at m2
    have hst := byte_all (s := s) (i := i) (fun c => !steB c || cls c.toNat == 2) ste_letter
    simp only [m2, Bool.not_true, Bool.false_or, beq_iff_eq] at hst
    have hl := byte_all (s := s) (i := i) (fun c => !(cls c.toNat == 2) || (!(c == 39) && !(c == 34) && inner dashes c && inner none8 c)) cls_letter
    simp only [hst, beq_self_eq_true, Bool.not_true, Bool.false_or, Bool.and_eq_true, Bool.not_eq_true', beq_eq_false_iff_ne] at hl
    obtain ⟨⟨⟨l1, l2⟩, _⟩, _⟩ := hl
    have hrun : runTo s (inner none8) (i + 2) = i + t.size := by
      have := run_is (s := s) (p := inner none8) (n := t.size - 2) (i := i + 2) (fun j hj => by
        rw [show i + 2 + j = i + (j + 2) by omega, hb (j + 2) (by omega)]; exact m5 (j + 2) (by omega) (by omega)) (by omega) (by
          rw [show i + 2 + (t.size - 2) = i + t.size by omega]; exact near_stop _ near_none hnr)
      rw [this]; omega
    have := tok_var (s := s) (i := i) rfl (by rintro (q | q); exact l1 q; exact l2 q) (by rw [hst]; decide) ⟨m2, by rw [hb 1 (by omega)]; exact m3⟩
    rw [← this, hrun, if_neg (by omega)]
    unfold near
    rw [if_neg (by rw [hnr]; decide), hex]
  by_cases k6 : k = 6
  · subst k6
    have hm : (decide (t.size = 1) && (cls (bt t 0).toNat == 4)) = true := ho
    simp only [Bool.and_eq_true, decide_eq_true_eq, beq_iff_eq] at hm
    obtain ⟨m0, m1⟩ := hm
    have hb0 := hb 0 (by omega)
    rw [Nat.add_zero] at hb0
    rw [← hb0] at m1
    have hl := byte_all (s := s) (i := i) (fun c => !(cls c.toNat == 4) || (!(c == 39) && !(c == 34))) cls_sign
    simp only [m1, beq_self_eq_true, Bool.not_true, Bool.false_or, Bool.and_eq_true, Bool.not_eq_true', beq_eq_false_iff_ne] at hl
    rw [m0] at hex ⊢
    rw [tok_sign (s := s) (i := i) rfl (by rintro (q | q); exact hl.1 q; exact hl.2 q) m1, hex]
  by_cases k7 : k = 7
  · subst k7
    have hm : isKeyB t = true := ho
    have hnr := hn rfl
    have key : bt t 0 = 36 ∧ 2 ≤ t.size ∧ cls (bt t 1).toNat = 2 ∧ ∀ j, 1 ≤ j → j < t.size → inner dashes (bt t j) = true := by
      have hk : t = ⟨#[36, 69, 78, 84, 82, 89]⟩ ∨ t = ⟨#[36, 69, 88, 84, 69, 82, 78]⟩ := by
        unfold isKeyB at hm
        rw [Bool.or_eq_true] at hm
        rcases hm with q | q
        · exact .inl (data_inj (by rw [← Lib.toList_data]; simpa using q))
        · exact .inr (data_inj (by rw [← Lib.toList_data]; simpa using q))
      rcases hk with rfl | rfl
      · refine ⟨by decide, by decide, by decide, fun j h1 h2 => ?_⟩
        have h2' : j < 6 := h2
        have : ∀ x : Fin 6, x.val = 0 ∨ inner dashes (bt ⟨#[36, 69, 78, 84, 82, 89]⟩ x.val) = true := by decide +kernel
        exact (this ⟨j, h2'⟩).resolve_left (by show ¬ j = 0; omega)
      · refine ⟨by decide, by decide, by decide, fun j h1 h2 => ?_⟩
        have h2' : j < 7 := h2
        have : ∀ x : Fin 7, x.val = 0 ∨ inner dashes (bt ⟨#[36, 69, 88, 84, 69, 82, 78]⟩ x.val) = true := by decide +kernel
        exact (this ⟨j, h2'⟩).resolve_left (by show ¬ j = 0; omega)
    obtain ⟨m0, m1, m2, m3⟩ := key
    have hb0 := hb 0 (by omega)
    rw [Nat.add_zero, m0] at hb0
    have hb1 := hb 1 (by omega)
    have hrun : runTo s (inner dashes) (i + 1) = i + t.size := by
      have := run_is (s := s) (p := inner dashes) (n := t.size - 1) (i := i + 1) (fun j hj => by
        rw [show i + 1 + j = i + (j + 1) by omega, hb (j + 1) (by omega)]; exact m3 (j + 1) (by omega) (by omega)) (by omega) (by
          rw [show i + 1 + (t.size - 1) = i + t.size by omega]; exact near_stop _ near_dash hnr)
      rw [this]; omega
    have := tok_word (s := s) (i := i) rfl hb0
    rw [← this, hb1, if_pos m2, hrun, hex, if_pos hm]
    unfold near
    rw [if_neg (by rw [hnr]; decide), hex]
  · unfold okB at ho
    rw [if_neg k1, if_neg k2, if_neg k3, if_neg k4, if_neg k5, if_neg k6, if_neg k7] at ho
    cases ho
end Go.Proofs.YtmapaagdaojpaaaGreatDoor
namespace Go.Proofs.YtmapaagdaojpaaaGreatDoor

/-- From i on there are white space and comments up to j, and no more. -/
def Sk (s : ByteArray) (i j : Nat) : Prop := ∀ n, j - i < n → ∀ sp, ∃ sp', skipN s n i sp = .ok j sp'
def startC (c : Int) : Bool := !(cls c.toNat == 1) && !(c == 42) && !(c == 47)
/-- The text ends here, or something begins that is neither white space nor a comment. -/
def Stop (s : ByteArray) (i : Nat) : Prop := i = s.size ∨ (i < s.size ∧ startC (bt s i) = true)
theorem sk_stop {s : ByteArray} {i : Nat} (h : Stop s i) : Sk s i i := fun n hn sp => by
  obtain ⟨m, rfl⟩ : ∃ m, n = m + 1 := ⟨n - 1, by omega⟩
  unfold skipN
  rcases h with h | ⟨h1, h2⟩
  · rw [if_neg (by omega)]; exact ⟨sp, rfl⟩
  · unfold startC at h2
    simp only [Bool.and_eq_true, Bool.not_eq_true', beq_eq_false_iff_ne] at h2
    obtain ⟨⟨a, b⟩, c⟩ := h2
    rw [if_pos h1, if_neg a, if_neg (by unfold isStar; rw [show (bt s i == 42) = false by simpa using b]; simp), if_neg (by unfold isOpen; rw [show (bt s i == 47) = false by simpa using c]; simp)]
    exact ⟨sp, rfl⟩
theorem sk_white {s : ByteArray} {i j : Nat} (h1 : i < s.size) (h2 : cls (bt s i).toNat = 1) (hj : i + 1 ≤ j) (h : Sk s (i + 1) j) : Sk s i j := fun n hn sp => by
  obtain ⟨m, rfl⟩ : ∃ m, n = m + 1 := ⟨n - 1, by omega⟩
  unfold skipN
  rw [if_pos h1, if_pos h2]
  exact h m (by omega) sp
theorem sk_star {s : ByteArray} {i j : Nat} (h1 : i < s.size) (h2 : bt s i = 42) (h3 : bt s (i - 1) = 10) (hl : i < lineEnd s i) (hj : lineEnd s i ≤ j) (h : Sk s (lineEnd s i) j) : Sk s i j := fun n hn sp => by
  obtain ⟨m, rfl⟩ : ∃ m, n = m + 1 := ⟨n - 1, by omega⟩
  unfold skipN
  rw [if_pos h1, if_neg (by rw [h2]; decide), if_pos (by unfold isStar; rw [h2, h3]; simp)]
  exact h m (by omega) _
theorem sk_open {s : ByteArray} {i j e : Nat} (h1 : i < s.size) (h2 : bt s i = 47) (h3 : bt s (i + 1) = 42) (he : comEnd s (i + 2) = some e) (hl : i < e) (hj : e ≤ j) (h : Sk s e j) : Sk s i j := fun n hn sp => by
  obtain ⟨m, rfl⟩ : ∃ m, n = m + 1 := ⟨n - 1, by omega⟩
  unfold skipN
  rw [if_pos h1, if_neg (by rw [h2]; decide), if_neg (by unfold isStar; rw [h2]; simp), if_pos (by unfold isOpen; rw [h2, h3]; rfl), he]
  exact h m (by omega) _
theorem com_hit {s : ByteArray} {i : Nat} (h : i + 1 < s.size) (h1 : bt s i = 42) (h2 : bt s (i + 1) = 47) : comEnd s i = some (i + 2) := by
  unfold comEnd
  rw [show s.size - i = (s.size - i - 1) + 1 by omega, comN, if_pos h, if_pos ⟨h1, h2⟩]
theorem com_step {s : ByteArray} {i : Nat} (h : i + 1 < s.size) (h1 : ¬ (bt s i = 42 ∧ bt s (i + 1) = 47)) : comEnd s i = comEnd s (i + 1) := by
  unfold comEnd
  rw [show s.size - i = (s.size - (i + 1)) + 1 by omega, comN, if_pos h, if_neg h1]
/-- The gaps. -/
def gapOf : Nat → List UInt8
  | 0 => [32]
  | 1 => [10]
  | 2 => [9, 13]
  | 3 => [47, 42, 32, 39, 32, 42, 47]
  | 4 => [10, 42, 32, 34, 32, 36, 10]
  | _ => [47, 42, 42, 47, 32]
def IsGap (g : List UInt8) : Prop := g = [] ∨ ∃ k, g = gapOf k
theorem gap_skip {s : ByteArray} {i : Nat} {g : List UInt8} (hg : IsGap g) (h : Has s i g) (hi : i ≤ s.size) (hs : Stop s (i + g.length)) : Sk s i (i + g.length) := by
  have hle := has_le h hi
  have hb := has_bt h
  rcases hg with rfl | ⟨k, rfl⟩
  · exact sk_stop hs
  · match k with
    | 0 =>
      have b0 : bt s i = 32 := hb 0 (by decide)
      simp only [gapOf, List.length_cons, List.length_nil] at hle hs ⊢
      exact sk_white (by omega) (by rw [b0]; decide) (by omega) (sk_stop hs)
    | 1 =>
      have b0 : bt s i = 10 := hb 0 (by decide)
      simp only [gapOf, List.length_cons, List.length_nil] at hle hs ⊢
      exact sk_white (by omega) (by rw [b0]; decide) (by omega) (sk_stop hs)
    | 2 =>
      have b0 : bt s i = 9 := hb 0 (by decide)
      have b1 : bt s (i + 1) = 13 := hb 1 (by decide)
      simp only [gapOf, List.length_cons, List.length_nil] at hle hs ⊢
      exact sk_white (by omega) (by rw [b0]; decide) (by omega) (sk_white (by omega) (by rw [b1]; decide) (by omega) (sk_stop hs))
    | 3 =>
      have b0 : bt s i = 47 := hb 0 (by decide)
      have b1 : bt s (i + 1) = 42 := hb 1 (by decide)
      have b2 : bt s (i + 2) = 32 := hb 2 (by decide)
      have b3 : bt s (i + 3) = 39 := hb 3 (by decide)
      have b4 : bt s (i + 4) = 32 := hb 4 (by decide)
      have b5 : bt s (i + 5) = 42 := hb 5 (by decide)
      have b6 : bt s (i + 6) = 47 := hb 6 (by decide)
      simp only [gapOf, List.length_cons, List.length_nil] at hle hs ⊢
      refine sk_open (e := i + 7) (by omega) b0 b1 ?_ (by omega) (by omega) (sk_stop hs)
      rw [com_step (by omega) (by rw [b2]; rintro ⟨q, _⟩; cases q), com_step (by omega) (by rw [b3]; rintro ⟨q, _⟩; cases q), com_step (by omega) (by rw [b4]; rintro ⟨q, _⟩; cases q), com_hit (by omega) b5 b6]
    | 4 =>
      have b0 : bt s i = 10 := hb 0 (by decide)
      have b1 : bt s (i + 1) = 42 := hb 1 (by decide)
      have b2 : bt s (i + 2) = 32 := hb 2 (by decide)
      have b3 : bt s (i + 3) = 34 := hb 3 (by decide)
      have b4 : bt s (i + 4) = 32 := hb 4 (by decide)
      have b5 : bt s (i + 5) = 36 := hb 5 (by decide)
      have b6 : bt s (i + 6) = 10 := hb 6 (by decide)
      simp only [gapOf, List.length_cons, List.length_nil] at hle hs ⊢
      have hl : lineEnd s (i + 1) = i + 6 := by
        have := run_is (s := s) (p := notLf) (n := 5) (i := i + 1) (fun j hj => by
          match j, hj with
          | 0, _ => rw [Nat.add_zero, b1]; decide
          | 1, _ => rw [b2]; decide
          | 2, _ => rw [b3]; decide
          | 3, _ => rw [b4]; decide
          | 4, _ => rw [b5]; decide) (by omega) (by rw [b6]; rintro ⟨_, q⟩; exact absurd q (by decide))
        exact this
      refine sk_white (by omega) (by rw [b0]; decide) (by omega) (sk_star (by omega) b1 b0 (by rw [hl]; omega) (by rw [hl]; omega) ?_)
      rw [hl]
      exact sk_white (by omega) (by rw [b6]; decide) (by omega) (sk_stop hs)
    | k + 5 =>
      have b0 : bt s i = 47 := hb 0 (by decide : 0 < 5)
      have b1 : bt s (i + 1) = 42 := hb 1 (by decide : 1 < 5)
      have b2 : bt s (i + 2) = 42 := hb 2 (by decide : 2 < 5)
      have b3 : bt s (i + 3) = 47 := hb 3 (by decide : 3 < 5)
      have b4 : bt s (i + 4) = 32 := hb 4 (by decide : 4 < 5)
      simp only [gapOf, List.length_cons, List.length_nil] at hle hs ⊢
      exact sk_open (e := i + 4) (by omega) b0 b1 (com_hit (by omega) b2 b3) (by omega) (by omega) (sk_white (by omega) (by rw [b4]; decide) (by omega) (sk_stop hs))
theorem gap_near {g : List UInt8} (hg : IsGap g) (hne : g ≠ []) {s : ByteArray} {i : Nat} {r : List UInt8} (h : Has s i (g ++ r)) : nearB s i = false := by
  have key : ∃ b q, g = b :: q ∧ nearC b.toNat = false := by
    rcases hg with rfl | ⟨k, rfl⟩
    · exact absurd rfl hne
    · match k with
      | 0 => exact ⟨_, _, rfl, by decide⟩
      | 1 => exact ⟨_, _, rfl, by decide⟩
      | 2 => exact ⟨_, _, rfl, by decide⟩
      | 3 => exact ⟨_, _, rfl, by decide⟩
      | 4 => exact ⟨_, _, rfl, by decide⟩
      | k + 5 => exact ⟨_, _, rfl, by decide⟩
  obtain ⟨b, q, rfl, hb⟩ := key
  have h2 := (has_cons.1 h).2.1
  rw [nearB_is, bt_bu, h2, hb, Bool.and_false]
theorem start_letter : ∀ x : Fin 256, (!(cls (x.val : Int).toNat == 2) || startC x.val) = true := by decide +kernel
theorem start_digit : ∀ x : Fin 256, (!(cls (x.val : Int).toNat == 3 || (x.val : Int) == 45) || startC x.val) = true := by decide +kernel
theorem start_sign : ∀ x : Fin 256, (!(cls (x.val : Int).toNat == 4) || (startC x.val && !nearC x.val)) = true := by decide +kernel
/-- How a right token begins. -/
theorem tok_first {k : Int} {t : ByteArray} (hc : chkB k t = 0) : ∃ b r, (textB k t).data.toList = b :: r ∧ startC b.toNat = true ∧ (gapK k = false → nearC b.toNat = false) := by
  have ho := ok_of hc
  clear hc
  by_cases k1 : k = 1
  · subst k1
    exact ⟨39, (t.data.toList.flatMap (escB 39) ++ [39]), by show (quotedB 39 t).data.toList = _; simp [quotedB, quotedL], by decide, fun _ => by decide⟩
  by_cases k2 : k = 2
  · subst k2
    exact ⟨34, (t.data.toList.flatMap (escB 34) ++ [34]), by show (quotedB 34 t).data.toList = _; simp [quotedB, quotedL], by decide, fun _ => by decide⟩
  rw [textB_plain k1 k2]
  have hz : t.data.toList.length = t.size := Array.length_toList
  have first : 1 ≤ t.size → ∃ b r, t.data.toList = b :: r ∧ bt t 0 = b.toNat := fun h1 => by
    cases hl : t.data.toList with
    | nil => rw [hl] at hz; simp at hz; omega
    | cons b r => exact ⟨b, r, rfl, bt_zero t hl⟩
  by_cases k3 : k = 3
  · subst k3
    have hm : isNameB t = true := ho
    unfold isNameB at hm
    simp only [Bool.and_eq_true, decide_eq_true_eq, beq_iff_eq] at hm
    obtain ⟨⟨⟨m0, m1⟩, m2⟩, m3⟩ := hm
    obtain ⟨b, r, hl, hb⟩ := first (by omega)
    have := byte_all (s := t) (i := 0) (fun c => !(cls c.toNat == 2) || startC c) start_letter
    simp only [m2, beq_self_eq_true, Bool.not_true, Bool.false_or] at this
    exact ⟨b, r, hl, by rw [← hb]; exact this, fun q => by cases q⟩
  by_cases k4 : k = 4
  · subst k4
    have hm : isNumB t = true := ho
    obtain ⟨m0, m1, m2⟩ := num_bytes hm
    obtain ⟨b, r, hl, hb⟩ := first (by omega)
    have hd : (cls (bt t 0).toNat == 3 || bt t 0 == 45) = true := by
      rcases m2 with q | q
      · rw [q]; rfl
      · rw [q.1]; rfl
    have := byte_all (s := t) (i := 0) (fun c => !(cls c.toNat == 3 || c == 45) || startC c) start_digit
    simp only [hd, Bool.not_true, Bool.false_or] at this
    exact ⟨b, r, hl, by rw [← hb]; exact this, fun q => by cases q⟩
  by_cases k5 : k = 5
  · subst k5
    have hm : isVarB t = true := ho
    unfold isVarB at hm
    simp only [Bool.and_eq_true, decide_eq_true_eq, beq_iff_eq] at hm
    obtain ⟨⟨⟨⟨m0, m1⟩, m2⟩, m3⟩, m4⟩ := hm
    obtain ⟨b, r, hl, hb⟩ := first (by omega)
    have hst := byte_all (s := t) (i := 0) (fun c => !steB c || cls c.toNat == 2) ste_letter
    simp only [m2, Bool.not_true, Bool.false_or, beq_iff_eq] at hst
    have := byte_all (s := t) (i := 0) (fun c => !(cls c.toNat == 2) || startC c) start_letter
    simp only [hst, beq_self_eq_true, Bool.not_true, Bool.false_or] at this
    exact ⟨b, r, hl, by rw [← hb]; exact this, fun q => by cases q⟩
  by_cases k6 : k = 6
  · subst k6
    have hm : (decide (t.size = 1) && (cls (bt t 0).toNat == 4)) = true := ho
    simp only [Bool.and_eq_true, decide_eq_true_eq, beq_iff_eq] at hm
    obtain ⟨m0, m1⟩ := hm
    obtain ⟨b, r, hl, hb⟩ := first (by omega)
    have := byte_all (s := t) (i := 0) (fun c => !(cls c.toNat == 4) || (startC c && !nearC c)) start_sign
    simp only [m1, beq_self_eq_true, Bool.not_true, Bool.false_or, Bool.and_eq_true, Bool.not_eq_true'] at this
    exact ⟨b, r, hl, by rw [← hb]; exact this.1, fun _ => by rw [← hb]; exact this.2⟩
  by_cases k7 : k = 7
  · subst k7
    have hm : isKeyB t = true := ho
    unfold isKeyB at hm
    rw [Bool.or_eq_true] at hm
    rcases hm with q | q
    · exact ⟨36, [69, 78, 84, 82, 89], by rw [← Lib.toList_data]; simpa using q, by decide, fun q => by cases q⟩
    · exact ⟨36, [69, 88, 84, 69, 82, 78], by rw [← Lib.toList_data]; simpa using q, by decide, fun q => by cases q⟩
  · unfold okB at ho
    rw [if_neg k1, if_neg k2, if_neg k3, if_neg k4, if_neg k5, if_neg k6, if_neg k7] at ho
    cases ho
/-- Tokens with a gap ahead of each, and one behind the last. -/
def preTo : List (List UInt8) → List Ti → List UInt8
  | g :: gs, x :: l => g ++ ((textB x.kind x.text).data.toList ++ preTo gs l)
  | g :: _, [] => g
  | [], _ => []
def gapsOk : Bool → List (List UInt8) → List Ti → Prop
  | prev, g :: gs, x :: l => IsGap g ∧ (g = [] → (prev && gapK x.kind) = false) ∧ gapsOk (gapK x.kind) gs l
  | _, [g], [] => IsGap g
  | _, _, _ => False
theorem lay_toks (s : ByteArray) : ∀ (l : List Ti) (prev : Bool) (gs : List (List UInt8)) (i : Nat), gapsOk prev gs l → (∀ x ∈ l, chkB x.kind x.text = 0) → Has s i (preTo gs l) → i + (preTo gs l).length = s.size →
    (prev = true → nearB s i = false) ∧ ∀ (n : Nat) (sp : List (Nat × Nat)) (acc : List Tk), s.size - i < n → ∃ m sp', toksN s n i sp acc = .ok (acc ++ m) sp' ∧ m.map (fun x => (x.kind, x.text)) = l.map (fun x => (x.kind, x.text))
  | [], prev, gs, i, hg, _, h, hz => by
    match gs, hg with
    | [g], hg =>
      have hg : IsGap g := hg
      have h : Has s i g := h
      have hz : i + g.length = s.size := hz
      refine ⟨fun _ => ?_, fun n sp acc hn => ?_⟩
      · by_cases e : g = []
        · subst e
          rw [nearB_is, decide_eq_false (by simp at hz; omega), Bool.false_and]
        · exact gap_near hg e (r := []) (by rw [List.append_nil]; exact h)
      · obtain ⟨n, rfl⟩ : ∃ m, n = m + 1 := ⟨n - 1, by omega⟩
        have hk := gap_skip hg h (by omega) (.inl hz)
        obtain ⟨sp', hsp⟩ := hk (s.size + 1) (by omega) sp
        refine ⟨[], sp', ?_, rfl⟩
        rw [List.append_nil]
        exact toks_end rfl hsp hz
  | x :: l, prev, gs, i, hg, hok, h, hz => by
    match gs, hg with
    | g :: gs, hg =>
      obtain ⟨hg1, hg2, hg3⟩ : IsGap g ∧ (g = [] → (prev && gapK x.kind) = false) ∧ gapsOk (gapK x.kind) gs l := hg
      have h : Has s i (g ++ ((textB x.kind x.text).data.toList ++ preTo gs l)) := h
      have hz : i + (g ++ ((textB x.kind x.text).data.toList ++ preTo gs l)).length = s.size := hz
      rw [List.length_append, List.length_append] at hz
      have hx := hok x (by simp)
      obtain ⟨b, r, hbr, hs1, hs2⟩ := tok_first hx
      obtain ⟨h1, h2⟩ := has_app.1 h
      obtain ⟨h3, h4⟩ := has_app.1 h2
      have htz : (textB x.kind x.text).data.toList.length = (textB x.kind x.text).size := Array.length_toList
      have htp : 1 ≤ (textB x.kind x.text).size := by rw [← htz, hbr]; simp
      have hbj : bu s (i + g.length) = b := by rw [hbr] at h3; exact (has_cons.1 h3).2.1
      rw [htz] at h4 hz
      have ih := lay_toks s l (gapK x.kind) gs _ hg3 (fun y hy => hok y (List.mem_cons_of_mem _ hy)) h4 (by omega)
      refine ⟨fun hp => ?_, fun n sp acc hn => ?_⟩
      · by_cases e : g = []
        · subst e
          have hgk := hg2 rfl
          rw [hp, Bool.true_and] at hgk
          rw [List.length_nil, Nat.add_zero] at hbj
          rw [nearB_is, bt_bu, hbj, hs2 hgk, Bool.and_false]
        · exact gap_near hg1 e h
      · obtain ⟨n, rfl⟩ : ∃ m, n = m + 1 := ⟨n - 1, by omega⟩
        have hj : i + g.length < s.size := by omega
        have hk := gap_skip hg1 h1 (by omega) (.inr ⟨hj, by rw [bt_bu, hbj]; exact hs1⟩)
        obtain ⟨sp', hsp⟩ := hk (s.size + 1) (by omega) sp
        have ht := tok_back hj hx h3 ih.1
        obtain ⟨m, sp2, hm, he⟩ := ih.2 n sp' (acc ++ [⟨x.kind, x.text, i + g.length⟩]) (by omega)
        refine ⟨⟨x.kind, x.text, i + g.length⟩ :: m, sp2, ?_, ?_⟩
        · rw [← toks_next rfl hsp (by omega) ht, hm]
          simp
        · simp [he]
/-- The whole text. -/
theorem scan_lay {s : ByteArray} {l : List Ti} {gs : List (List UInt8)} (hz : s.size ≤ 40000) (hg : gapsOk false gs l) (hok : ∀ x ∈ l, chkB x.kind x.text = 0) (h : s.data.toList = preTo gs l) :
    ∃ m sp, scanN s = .ok m sp ∧ m.map (fun x => (x.kind, x.text)) = l.map (fun x => (x.kind, x.text)) := by
  have hl : s.data.toList.length = s.size := Array.length_toList
  have hh : Has s 0 (preTo gs l) := by unfold Has; rw [List.drop_zero, h]; exact List.prefix_refl _
  obtain ⟨m, sp, h1, h2⟩ := (lay_toks s l false gs 0 hg hok hh (by rw [← h]; omega)).2 (s.size + 1) [] [] (by omega)
  refine ⟨m, sp, ?_, h2⟩
  unfold scanN
  rw [if_neg (by omega), h1, List.nil_append]
/-- The gaps of Join. -/
def gapsJ : Bool → List Ti → List (List UInt8)
  | _, [] => [[]]
  | prev, x :: l => (if prev && gapK x.kind then [32] else []) :: gapsJ (gapK x.kind) l
theorem gapsJ_ok : ∀ (l : List Ti) (prev : Bool), gapsOk prev (gapsJ prev l) l
  | [], _ => .inl rfl
  | x :: l, prev => by
    refine ⟨?_, ?_, gapsJ_ok l _⟩
    · split
      · exact .inr ⟨0, rfl⟩
      · exact .inl rfl
    · cases e : (prev && gapK x.kind) with
      | false => intro _; rfl
      | true => rw [if_pos rfl]; intro q; cases q
def prevOf (p : List Ti) : Bool := match p.getLast? with
  | none => false
  | some y => gapK y.kind
theorem join_pre : ∀ (l p : List Ti), (List.range l.length).flatMap (fun i => segB (p ++ l) (p.length + i)) = preTo (gapsJ (prevOf p) l) l
  | [], p => rfl
  | x :: l, p => by
    have ih := join_pre l (p ++ [x])
    rw [List.append_assoc, List.singleton_append, List.length_append, List.length_singleton] at ih
    rw [List.length_cons, List.range_succ_eq_map, List.flatMap_cons, List.flatMap_map]
    have e1 : (fun a => segB (p ++ x :: l) (p.length + a.succ)) = fun i => segB (p ++ x :: l) (p.length + 1 + i) := by
      funext i; congr 1; omega
    rw [e1, ih]
    have e2 : prevOf (p ++ [x]) = gapK x.kind := by unfold prevOf; simp
    rw [e2]
    have hlt : p.length < (p ++ x :: l).length := by simp
    have hg : gapAt (p ++ x :: l) p.length = (prevOf p && gapK x.kind) := by
      unfold prevOf
      cases hp : p.getLast? with
      | none =>
        have : p = [] := List.getLast?_eq_none_iff.1 hp
        subst this; rfl
      | some y =>
        obtain ⟨q, rfl⟩ := List.getLast?_eq_some_iff.1 hp
        have : (q ++ [y]).length = q.length + 1 := by simp
        rw [this]
        show gapTwo _ _ = _
        rw [show ((q ++ [y]) ++ x :: l)[q.length + 1]? = some x by simp, show ((q ++ [y]) ++ x :: l)[q.length]? = some y by simp]
        show (gapK x.kind && gapK y.kind) = _
        rw [Bool.and_comm]
    rw [Nat.add_zero, segB_at hlt, hg]
    have hx : (p ++ x :: l)[p.length] = x := by simp
    rw [hx, List.append_assoc]
    rfl
theorem joinTo_pre (l : List Ti) : joinTo l l.length = preTo (gapsJ false l) l := by
  have := join_pre l []
  simp only [List.nil_append, List.length_nil, Nat.zero_add] at this
  exact this
/-- Join is read back. -/
theorem scan_join {l : List Ti} {s : ByteArray} (h : joinB l = (s, 0)) : s.size ≤ 40000 ∧ (∀ x ∈ l, chkB x.kind x.text = 0) ∧ ∃ m sp, scanN s = .ok m sp ∧ m.map (fun x => (x.kind, x.text)) = l.map (fun x => (x.kind, x.text)) := by
  unfold joinB at h
  cases hb : badAt l with
  | some i => rw [hb] at h; cases h
  | none =>
    rw [hb] at h
    dsimp only at h
    have hall := bad_all hb
    have hok : ∀ x ∈ l, chkB x.kind x.text = 0 := fun x hx => by
      obtain ⟨k, hk, rfl⟩ := List.getElem_of_mem hx
      exact hall k hk
    by_cases h4 : 40000 < (joinTo l l.length).length
    · rw [if_pos h4] at h; cases h
    · rw [if_neg h4] at h
      cases h
      have hz : (⟨(joinTo l l.length).toArray⟩ : ByteArray).size = (joinTo l l.length).length := List.size_toArray ..
      exact ⟨by omega, hok, scan_lay (by omega) (gapsJ_ok l false) hok (joinTo_pre l)⟩
/-- Tokens with a gap behind each. -/
def outTo (l : List Ti) (g : Nat → List UInt8) (k : Nat) : List UInt8 := (List.range k).flatMap fun i => match l[i]? with
  | some x => (textB x.kind x.text).data.toList ++ g i
  | none => []
theorem outTo_succ {l : List Ti} {g : Nat → List UInt8} {k : Nat} (h : k < l.length) : outTo l g (k + 1) = outTo l g k ++ ((textB l[k].kind l[k].text).data.toList ++ g k) := by
  unfold outTo
  rw [List.range_succ, List.flatMap_append]
  simp [List.getElem?_eq_getElem h]
theorem out_pre : ∀ (l : List Ti) (g : Nat → List UInt8) (a : List UInt8), a ++ outTo l g l.length = preTo (a :: (List.range l.length).map g) l
  | [], g, a => by simp [outTo, preTo]
  | x :: l, g, a => by
    have ih := out_pre l (fun i => g (i + 1)) (g 0)
    unfold outTo at ih ⊢
    rw [List.length_cons, List.range_succ_eq_map, List.flatMap_cons, List.flatMap_map, List.map_cons, List.map_map]
    show _ = a ++ ((textB x.kind x.text).data.toList ++ preTo (g 0 :: (List.range l.length).map (g ∘ Nat.succ)) l)
    rw [show (g ∘ Nat.succ) = fun i => g (i + 1) from rfl, ← ih]
    simp
theorem gaps_all : ∀ (l : List Ti) (prev : Bool) (g : Nat → List UInt8), (∀ i, IsGap (g i) ∧ g i ≠ []) → gapsOk prev ((List.range (l.length + 1)).map g) l
  | [], _, g, h => (h 0).1
  | x :: l, prev, g, h => by
    rw [List.length_cons, List.range_succ_eq_map, List.map_cons, List.map_map]
    exact ⟨(h 0).1, fun q => absurd q (h 0).2, gaps_all l _ (fun i => g (i + 1)) fun i => h (i + 1)⟩
theorem gaps_out (l : List Ti) (g : Nat → List UInt8) (h : ∀ i, IsGap (g i) ∧ g i ≠ []) : gapsOk false ([] :: (List.range l.length).map g) l := by
  cases l with
  | nil => exact .inl rfl
  | cons x l => exact ⟨.inl rfl, fun _ => rfl, gaps_all l _ g h⟩
/-- The text with gaps is read back. -/
theorem scan_out {l : List Ti} {g : Nat → List UInt8} {s : ByteArray} (hz : s.size ≤ 40000) (hok : ∀ x ∈ l, chkB x.kind x.text = 0) (hg : ∀ i, IsGap (g i) ∧ g i ≠ []) (h : s.data.toList = outTo l g l.length) :
    ∃ m sp, scanN s = .ok m sp ∧ m.map (fun x => (x.kind, x.text)) = l.map (fun x => (x.kind, x.text)) :=
  scan_lay hz (gaps_out l g hg) hok (by rw [h]; have := out_pre l g []; rwa [List.nil_append] at this)
end Go.Proofs.YtmapaagdaojpaaaGreatDoor
