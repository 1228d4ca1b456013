/- Plain: the two ways to know a number are one. Plain: a text between marks. Plain: what Write and Join answer. -/
import Derived.Test.YtmapaagdaojpaaaGreatDoorRd
import Derived.Test.YtmapaagdaojpaaaGreatDoorPx
namespace Go.Proofs.YtmapaagdaojpaaaGreatDoor

theorem dropWhile_nil {α : Type} (p : α → Bool) : ∀ l : List α, l.dropWhile p = [] ↔ ∀ x ∈ l, p x = true
  | [] => by simp
  | x :: l => by
    rw [List.dropWhile_cons]
    by_cases h : p x = true
    · rw [if_pos h, dropWhile_nil p l]; simp [h]
    · rw [if_neg h]; simp [h]
theorem dropWhile_head {α : Type} (p : α → Bool) : ∀ (l : List α) (x : α) (r : List α), l.dropWhile p = x :: r → p x = false
  | [], x, r, h => by cases h
  | y :: l, x, r, h => by
    rw [List.dropWhile_cons] at h
    by_cases hy : p y = true
    · rw [if_pos hy] at h; exact dropWhile_head p l x r h
    · rw [if_neg hy] at h; cases h; simpa using hy
theorem trim_nil (l cs : List UInt8) : Lib.trimS l cs = [] ↔ ∀ x ∈ l, cs.contains x = true := by
  unfold Lib.trimS Lib.trimLeftS Lib.trimRightS
  rw [dropWhile_nil]
  constructor
  · intro h
    have : l.reverse.dropWhile (cs.contains ·) = [] := by
      cases hc : l.reverse.dropWhile (cs.contains ·) with
      | nil => rfl
      | cons x r =>
        have h1 := dropWhile_head _ _ _ _ hc
        have h2 := h x (by rw [hc]; simp)
        rw [h1] at h2; cases h2
    intro x hx
    exact (dropWhile_nil _ _).1 this x (by simpa using hx)
  · intro h x hx
    refine h x ?_
    have : x ∈ l.reverse.dropWhile (cs.contains ·) := by simpa using hx
    simpa using (List.dropWhile_sublist _).subset this
theorem digits_is (b : UInt8) : digitsB.data.toList.contains b = digP b.toNat := by
  have : ∀ i : Fin 256, digitsB.data.toList.contains (UInt8.ofNat i.val) = digP (i.val : Int) := by decide +kernel
  have h := this ⟨b.toNat, b.toNat_lt⟩
  dsimp only at h
  rw [UInt8.ofNat_toNat] at h
  exact h
theorem data_inj {a b : ByteArray} (h : a.data.toList = b.data.toList) : a = b := by
  apply ByteArray.ext
  exact Array.toList_inj.1 h
theorem bt_zero (s : ByteArray) {x : UInt8} {l : List UInt8} (h : s.data.toList = x :: l) : bt s 0 = x.toNat := by
  have hz : s.size = (x :: l).length := by rw [← h, Array.length_toList]; rfl
  have hlt : 0 < s.size := by rw [hz]; simp
  rw [← bt_in hlt]
  have : s.data.toList[0]? = some x := by rw [h]; rfl
  rw [Array.getElem?_toList, Array.getElem?_eq_getElem hlt] at this
  have h2 := Option.some.inj this
  rw [← h2]; rfl
theorem num_d (s : ByteArray) : numD s = numT s := by
  apply data_inj
  unfold numD numT Lib.trimPrefix Lib.hasPrefix
  cases h : s.data.toList with
  | nil =>
    have hz : s.size = 0 := by have := congrArg List.length h; rw [Array.length_toList] at this; exact this
    rw [bt_out (by omega), if_neg (by decide)]
    exact h.symm
  | cons x l =>
    rw [bt_zero s h]
    show (List.toArray (if dashB.data.toList.isPrefixOf (x :: l) = true then (x :: l).drop dashB.data.toList.length else x :: l)).toList = _
    have e1 : dashB.data.toList.isPrefixOf (x :: l) = (x == 45) := by
      show ([45] : List UInt8).isPrefixOf (x :: l) = _
      simp only [List.isPrefixOf, Bool.and_true]
      rw [Bool.eq_iff_iff, beq_iff_eq, beq_iff_eq]
      exact ⟨fun q => q.symm, fun q => q.symm⟩
    rw [e1]
    by_cases hx : x = 45
    · subst hx
      rw [if_pos (by rfl), if_pos (by rfl), Lib.extract_to_end, h]
      rfl
    · rw [if_neg (by simpa using hx), if_neg (by intro q; exact hx (UInt8.toNat_inj.1 (by show _ = 45; omega)))]
      simp [h]
theorem bt_mem (d : ByteArray) (p : Int → Bool) : (∀ x ∈ d.data.toList, p x.toNat = true) ↔ ∀ j, 0 ≤ j → j < d.size → p (bt d j) = true := by
  constructor
  · intro h j _ hj
    rw [← bt_in hj]
    exact h _ (Array.mem_toList_iff.2 (Array.getElem_mem (xs := d.data) hj))
  · intro h x hx
    obtain ⟨j, hj, rfl⟩ := Array.getElem_of_mem (Array.mem_toList_iff.1 hx)
    have := h j (Nat.zero_le _) hj
    rw [← bt_in hj] at this
    exact this
theorem trim_digs (d : ByteArray) : (trimD d).toList.isEmpty = decide (runTo d digP 0 = d.size) := by
  rw [Bool.eq_iff_iff, List.isEmpty_iff, Lib.toList_data, decide_eq_true_eq, runTo_all d digP _ 0 rfl (Nat.zero_le _)]
  show (Lib.trimS d.data.toList digitsB.data.toList).toArray.toList = [] ↔ _
  rw [List.toList_toArray, trim_nil, ← bt_mem d digP]
  simp only [digits_is]
theorem size_empty (d : ByteArray) : (!d.toList.isEmpty) = decide (d.size ≠ 0) := by
  rw [Lib.toList_data, Bool.eq_iff_iff]
  have : d.data.toList.length = d.size := Array.length_toList
  cases h : d.data.toList with
  | nil =>
    rw [h] at this
    have h0 : d.size = 0 := this.symm
    simp [h0]
  | cons x l =>
    rw [h] at this
    have h0 : d.size ≠ 0 := by rw [← this]; simp
    simp [h0]
theorem isNumR_eq (s : ByteArray) : isNumR s = isNumB s := by
  unfold isNumR isNumB isNumL
  rw [num_d, trim_digs, size_empty]
  by_cases h48 : s.toList = [48]
  · have hs : s = ⟨#[48]⟩ := data_inj (by rw [← Lib.toList_data, h48])
    subst hs
    decide +kernel
  · rw [show (s.toList == [48]) = false by simpa using h48, Bool.false_or, Bool.or_false]
/-- Has a token a right text? -/
def okB (kind : Int) (text : ByteArray) : Bool :=
  if kind = 1 then true else if kind = 2 then isWordB text else if kind = 3 then isNameB text else if kind = 4 then isNumB text else if kind = 5 then isVarB text
  else if kind = 6 then decide (text.size = 1) && (cls (bt text 0).toNat == 4) else if kind = 7 then isKeyB text else false
def chkB (kind : Int) (text : ByteArray) : Int := if okB kind text = true then 0 else 2
theorem okR_eq (kind : Int) (text : ByteArray) : okR kind text = okB kind text := by unfold okR okB; rw [isNumR_eq]
theorem chkR_eq (kind : Int) (text : ByteArray) : chkR kind text = chkB kind text := by unfold chkR chkB; rw [okR_eq]
theorem chkB_of {kind : Int} {text : ByteArray} {b : Bool} (h : okB kind text = b) : chkB kind text = if b = true then 0 else 2 := by unfold chkB; rw [h]
end Go.Proofs.YtmapaagdaojpaaaGreatDoor
namespace Go.Proofs.YtmapaagdaojpaaaGreatDoor

def hexd (n : Nat) : UInt8 := (if n < 10 then 48 + n else 87 + n).toUInt8
/-- What a byte means behind a backslash, the other way. -/
def backF (mark : UInt8) (b : UInt8) : Option UInt8 :=
  if b = 92 then some 92 else if b = mark then some mark else if mark = 34 then none else if b = 10 then some 110 else if b = 9 then some 116 else none
/-- What is written for a byte. -/
def escB (mark : UInt8) (b : UInt8) : List UInt8 :=
  match backF mark b with
  | some e => [92, e]
  | none => if b.toNat < 32 ∨ 126 < b.toNat then [92, 120, hexd (b.toNat / 16), hexd (b.toNat % 16)] else [b]
/-- A text between marks. -/
def quotedL (mark : UInt8) (s : ByteArray) : List UInt8 := mark :: (s.data.toList.flatMap (escB mark) ++ [mark])
def quotedB (mark : UInt8) (s : ByteArray) : ByteArray := ⟨(quotedL mark s).toArray⟩
theorem take_step {s : ByteArray} {k : Nat} (h : k < s.size) : s.data.toList.take (k + 1) = s.data.toList.take k ++ [bu s k] := by
  have hl : k < s.data.toList.length := by rw [Array.length_toList]; exact h
  rw [← List.take_append_getElem hl]
  unfold bu
  rw [dif_pos h, Array.getElem_toList]; rfl
theorem ext_one {s : ByteArray} {k : Nat} (h : k < s.size) : (s.extract k (k + 1)).data.toList = [bu s k] := by
  have hz : (s.extract k (k + 1)).size = 1 := by rw [ByteArray.size_extract]; omega
  have hb : bu (s.extract k (k + 1)) 0 = bu s k := by
    unfold bu
    rw [dif_pos (by omega), dif_pos h, ByteArray.getElem_extract]
    rfl
  have hl : (s.extract k (k + 1)).data.toList.length = 1 := by rw [Array.length_toList]; exact hz
  cases hd : (s.extract k (k + 1)).data.toList with
  | nil => rw [hd] at hl; cases hl
  | cons x l =>
    rw [hd] at hl
    obtain rfl : l = [] := by cases l with | nil => rfl | cons _ _ => simp at hl
    have h2 := bt_zero _ hd
    rw [bt_bu, hb] at h2
    have : bu s k = x := UInt8.toNat_inj.1 (by omega)
    rw [this]
/-- What the loop over a text's bytes has written. -/
def QOut (mark : UInt8) (s : ByteArray) (k : Nat) (t : ByteArray) : Prop := t.data.toList = mark :: (s.data.toList.take k).flatMap (escB mark)
theorem QOut.step {mark : UInt8} {s t x : ByteArray} {k : Nat} (h : QOut mark s k t) (hk : k < s.size) (hx : x.data.toList = escB mark (bu s k)) : QOut mark s (k + 1) (t ++ x) := by
  unfold QOut at h ⊢
  rw [ByteArray.data_append, Array.toList_append, h, hx, take_step hk, List.flatMap_append]
  simp
theorem QOut.done {mark : UInt8} {s t : ByteArray} (h : QOut mark s s.size t) : t ++ ⟨#[mark]⟩ = quotedB mark s := by
  apply data_inj
  unfold QOut at h
  have : s.data.toList.take s.size = s.data.toList := List.take_of_length_le (by rw [Array.length_toList]; exact Nat.le_refl _)
  rw [this] at h
  rw [ByteArray.data_append, Array.toList_append, h]
  simp [quotedB, quotedL]
theorem escB_len (mark b : UInt8) : (escB mark b).length ≤ 4 := by
  unfold escB
  split
  · simp
  · split <;> simp
theorem flat_len (mark : UInt8) : ∀ l : List UInt8, (l.flatMap (escB mark)).length ≤ 4 * l.length
  | [] => by simp
  | x :: l => by
    rw [List.flatMap_cons, List.length_append, List.length_cons]
    have := escB_len mark x
    have := flat_len mark l
    omega
theorem QOut.len {mark : UInt8} {s t : ByteArray} {k : Nat} (h : QOut mark s k t) : t.size ≤ 4 * k + 1 := by
  have h2 := congrArg List.length h
  rw [Array.length_toList, List.length_cons] at h2
  have h3 := flat_len mark (s.data.toList.take k)
  rw [List.length_take] at h3
  have : t.size = t.data.size := rfl
  omega
theorem quotedB_len (mark : UInt8) (s : ByteArray) : (quotedB mark s).size ≤ 4 * s.size + 2 := by
  show (quotedL mark s).toArray.size ≤ _
  rw [List.size_toArray]
  unfold quotedL
  rw [List.length_cons, List.length_append]
  have h3 := flat_len mark s.data.toList
  have : s.data.toList.length = s.size := Array.length_toList
  simp only [List.length_cons, List.length_nil]
  omega
end Go.Proofs.YtmapaagdaojpaaaGreatDoor
namespace Go.Proofs.YtmapaagdaojpaaaGreatDoor

/-- A token as any list may hold it: its place may be any number. -/
structure Ti where
  kind : Int
  text : ByteArray
  at_ : Int
/-- The text of a right token. -/
def textB (k : Int) (t : ByteArray) : ByteArray := if k = 1 then quotedB 39 t else if k = 2 then quotedB 34 t else t
/-- Do tokens of this kind want a gap? -/
def gapK (k : Int) : Bool := [3, 4, 5, 7].contains k
def gapTwo : Option Ti → Option Ti → Bool
  | some x, some y => gapK x.kind && gapK y.kind
  | _, _ => false
def gapAt (l : List Ti) : Nat → Bool
  | 0 => false
  | i + 1 => gapTwo l[i + 1]? l[i]?
/-- The text of token i, with the blank ahead of it. -/
def segB (l : List Ti) (i : Nat) : List UInt8 := match l[i]? with
  | some x => (if gapAt l i then [32] else []) ++ (textB x.kind x.text).data.toList
  | none => []
/-- The text of the first k tokens. -/
def joinTo (l : List Ti) (k : Nat) : List UInt8 := (List.range k).flatMap (segB l)
theorem joinTo_succ (l : List Ti) (k : Nat) : joinTo l (k + 1) = joinTo l k ++ segB l k := by
  unfold joinTo; rw [List.range_succ, List.flatMap_append]; simp
theorem joinTo_len (l : List Ti) (k : Nat) : (joinTo l k).length ≤ (joinTo l (k + 1)).length := by
  rw [joinTo_succ, List.length_append]; omega
/-- The index of the first token that is not right. -/
def badAt : List Ti → Option Nat
  | [] => none
  | x :: l => if chkB x.kind x.text = 0 then (badAt l).map (· + 1) else some 0
/-- What Join answers. -/
def joinB (l : List Ti) : ByteArray × Int := match badAt l with
  | some _ => (ByteArray.empty, 2)
  | none => if 40000 < (joinTo l l.length).length then (ByteArray.empty, 7) else (⟨(joinTo l l.length).toArray⟩, 0)
theorem bad_all {l : List Ti} (h : badAt l = none) : ∀ k (hk : k < l.length), chkB l[k].kind l[k].text = 0 := by
  induction l with
  | nil => intro k hk; simp at hk
  | cons x l ih =>
    intro k hk
    rw [badAt] at h
    by_cases hx : chkB x.kind x.text = 0
    · rw [if_pos hx] at h
      cases k with
      | zero => exact hx
      | succ k => exact ih (by simpa using h) k (by simpa using hk)
    · rw [if_neg hx] at h; cases h
theorem bad_none {l : List Ti} (h : ∀ k (hk : k < l.length), chkB l[k].kind l[k].text = 0) : badAt l = none := by
  induction l with
  | nil => rfl
  | cons x l ih =>
    have h0 : chkB x.kind x.text = 0 := h 0 (by simp)
    rw [badAt, if_pos h0]
    rw [ih fun k hk => h (k + 1) (by simpa using hk)]; rfl
theorem bad_some {l : List Ti} {k : Nat} (hk : k < l.length) (h : ¬ chkB l[k].kind l[k].text = 0) : ∃ i, badAt l = some i := by
  cases hb : badAt l with
  | none => exact absurd (bad_all hb k hk) h
  | some i => exact ⟨i, rfl⟩
theorem joinB_bad {l : List Ti} {k : Nat} (hk : k < l.length) (h : ¬ chkB l[k].kind l[k].text = 0) : joinB l = (ByteArray.empty, 2) := by
  obtain ⟨i, hi⟩ := bad_some hk h
  unfold joinB; rw [hi]
theorem chkB_code (k : Int) (t : ByteArray) : chkB k t = 0 ∨ chkB k t = 2 := by
  unfold chkB; split <;> simp
theorem textB_len (k : Int) (t : ByteArray) : (textB k t).size ≤ 4 * t.size + 2 := by
  unfold textB
  split
  · exact quotedB_len _ _
  · split
    · exact quotedB_len _ _
    · omega
theorem segB_at {l : List Ti} {i : Nat} (h : i < l.length) : segB l i = (if gapAt l i then [32] else []) ++ (textB l[i].kind l[i].text).data.toList := by
  unfold segB; rw [List.getElem?_eq_getElem h]
theorem gapAt_zero (l : List Ti) : gapAt l 0 = false := rfl
theorem gapAt_succ {l : List Ti} {i : Nat} (h : i + 1 < l.length) : gapAt l (i + 1) = (gapK l[i + 1].kind && gapK (l[i]'(by omega)).kind) := by
  show gapTwo _ _ = _
  rw [List.getElem?_eq_getElem h, List.getElem?_eq_getElem (show i < l.length by omega)]
  rfl
theorem segB_len {l : List Ti} {i : Nat} (h : i < l.length) {M : Nat} (hM : l[i].text.size ≤ M) : (segB l i).length ≤ 4 * M + 3 := by
  rw [segB_at h, List.length_append]
  have h1 := textB_len l[i].kind l[i].text
  have h2 : (textB l[i].kind l[i].text).data.toList.length = (textB l[i].kind l[i].text).size := Array.length_toList
  have h3 : (if gapAt l i then ([32] : List UInt8) else []).length ≤ 1 := by split <;> simp
  omega
theorem joinTo_le {l : List Ti} {M : Nat} (hM : ∀ x ∈ l, x.text.size ≤ M) : ∀ k, k ≤ l.length → (joinTo l k).length ≤ k * (4 * M + 3)
  | 0, _ => by simp [joinTo]
  | k + 1, hk => by
    rw [joinTo_succ, List.length_append]
    have h1 := joinTo_le hM k (by omega)
    have h2 := segB_len (l := l) (i := k) (by omega) (hM _ (List.getElem_mem (by omega)))
    rw [Nat.succ_mul]; omega
end Go.Proofs.YtmapaagdaojpaaaGreatDoor
