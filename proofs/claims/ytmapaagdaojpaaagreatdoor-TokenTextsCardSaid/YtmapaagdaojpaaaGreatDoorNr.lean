/- Plain: the two ways to know a number are one. -/
import Derived.Test.YtmapaagdaojpaaaGreatDoorRd
import Derived.Test.YtmapaagdaojpaaaGreatDoorPc
import Derived.Test.YtmapaagdaojpaaaGreatDoorPf
namespace Go.Proofs.YtmapaagdaojpaaaGreatDoor

theorem dropWhile_nil {α : Type} (p : α → Bool) : ∀ l : List α, l.dropWhile p = [] ↔ ∀ x ∈ l, p x = true
  | [] => by simp
  | x :: l => by
    rw [List.dropWhile_cons]
    by_cases h : p x = true
    · rw [if_pos h, dropWhile_nil p l]; simp [h]
    · rw [if_neg h]; simp [h]
theorem dropWhile_head {α : Type} (p : α → Bool) : ∀ (l : List α) (x : α) (r : List α), l.dropWhile p = x :: r → p x = false
  | [], x, r, h => by cases h
  | y :: l, x, r, h => by
    rw [List.dropWhile_cons] at h
    by_cases hy : p y = true
    · rw [if_pos hy] at h; exact dropWhile_head p l x r h
    · rw [if_neg hy] at h; cases h; simpa using hy
theorem trim_nil (l cs : List UInt8) : Lib.trimS l cs = [] ↔ ∀ x ∈ l, cs.contains x = true := by
  unfold Lib.trimS Lib.trimLeftS Lib.trimRightS
  rw [dropWhile_nil]
  constructor
  · intro h
    have : l.reverse.dropWhile (cs.contains ·) = [] := by
      cases hc : l.reverse.dropWhile (cs.contains ·) with
      | nil => rfl
      | cons x r =>
        have h1 := dropWhile_head _ _ _ _ hc
        have h2 := h x (by rw [hc]; simp)
        rw [h1] at h2; cases h2
    intro x hx
    exact (dropWhile_nil _ _).1 this x (by simpa using hx)
  · intro h x hx
    refine h x ?_
    have : x ∈ l.reverse.dropWhile (cs.contains ·) := by simpa using hx
    simpa using (List.dropWhile_sublist _).subset this
theorem digits_is (b : UInt8) : digitsB.data.toList.contains b = digP b.toNat := by
  have : ∀ i : Fin 256, digitsB.data.toList.contains (UInt8.ofNat i.val) = digP (i.val : Int) := by decide +kernel
  have h := this ⟨b.toNat, b.toNat_lt⟩
  dsimp only at h
  rw [UInt8.ofNat_toNat] at h
  exact h
theorem data_inj {a b : ByteArray} (h : a.data.toList = b.data.toList) : a = b := by
  apply ByteArray.ext
  exact Array.toList_inj.1 h
theorem bt_zero (s : ByteArray) {x : UInt8} {l : List UInt8} (h : s.data.toList = x :: l) : bt s 0 = x.toNat := by
  have hz : s.size = (x :: l).length := by rw [← h, Array.length_toList]; rfl
  have hlt : 0 < s.size := by rw [hz]; simp
  rw [← bt_in hlt]
  have : s.data.toList[0]? = some x := by rw [h]; rfl
  rw [Array.getElem?_toList, Array.getElem?_eq_getElem hlt] at this
  have h2 := Option.some.inj this
  rw [← h2]; rfl
theorem num_d (s : ByteArray) : numD s = numT s := by
  apply data_inj
  unfold numD numT Lib.trimPrefix Lib.hasPrefix
  cases h : s.data.toList with
  | nil =>
    have hz : s.size = 0 := by have := congrArg List.length h; rw [Array.length_toList] at this; exact this
    rw [bt_out (by omega), if_neg (by decide)]
    exact h.symm
  | cons x l =>
    rw [bt_zero s h]
    show (List.toArray (if dashB.data.toList.isPrefixOf (x :: l) = true then (x :: l).drop dashB.data.toList.length else x :: l)).toList = _
    have e1 : dashB.data.toList.isPrefixOf (x :: l) = (x == 45) := by
      show ([45] : List UInt8).isPrefixOf (x :: l) = _
      simp only [List.isPrefixOf, Bool.and_true]
      rw [Bool.eq_iff_iff, beq_iff_eq, beq_iff_eq]
      exact ⟨fun q => q.symm, fun q => q.symm⟩
    rw [e1]
    by_cases hx : x = 45
    · subst hx
      rw [if_pos (by rfl), if_pos (by rfl), Lib.extract_to_end, h]
      rfl
    · rw [if_neg (by simpa using hx), if_neg (by intro q; exact hx (UInt8.toNat_inj.1 (by show _ = 45; omega)))]
      simp [h]
theorem bt_mem (d : ByteArray) (p : Int → Bool) : (∀ x ∈ d.data.toList, p x.toNat = true) ↔ ∀ j, 0 ≤ j → j < d.size → p (bt d j) = true := by
  constructor
  · intro h j _ hj
    rw [← bt_in hj]
    exact h _ (Array.mem_toList_iff.2 (Array.getElem_mem (xs := d.data) hj))
  · intro h x hx
    obtain ⟨j, hj, rfl⟩ := Array.getElem_of_mem (Array.mem_toList_iff.1 hx)
    have := h j (Nat.zero_le _) hj
    rw [← bt_in hj] at this
    exact this
theorem trim_digs (d : ByteArray) : (trimD d).toList.isEmpty = decide (runTo d digP 0 = d.size) := by
  rw [Bool.eq_iff_iff, List.isEmpty_iff, Lib.toList_data, decide_eq_true_eq, runTo_all d digP _ 0 rfl (Nat.zero_le _)]
  show (Lib.trimS d.data.toList digitsB.data.toList).toArray.toList = [] ↔ _
  rw [List.toList_toArray, trim_nil, ← bt_mem d digP]
  simp only [digits_is]
theorem size_empty (d : ByteArray) : (!d.toList.isEmpty) = decide (d.size ≠ 0) := by
  rw [Lib.toList_data, Bool.eq_iff_iff]
  have : d.data.toList.length = d.size := Array.length_toList
  cases h : d.data.toList with
  | nil =>
    rw [h] at this
    have h0 : d.size = 0 := this.symm
    simp [h0]
  | cons x l =>
    rw [h] at this
    have h0 : d.size ≠ 0 := by rw [← this]; simp
    simp [h0]
theorem isNumR_eq (s : ByteArray) : isNumR s = isNumB s := by
  unfold isNumR isNumB isNumL
  rw [num_d, trim_digs, size_empty]
  by_cases h48 : s.toList = [48]
  · have hs : s = ⟨#[48]⟩ := data_inj (by rw [← Lib.toList_data, h48])
    subst hs
    decide +kernel
  · rw [show (s.toList == [48]) = false by simpa using h48, Bool.false_or, Bool.or_false]
/-- Has a token a right text? -/
def okB (kind : Int) (text : ByteArray) : Bool :=
  if kind = 1 then true else if kind = 2 then isWordB text else if kind = 3 then isNameB text else if kind = 4 then isNumB text else if kind = 5 then isVarB text
  else if kind = 6 then decide (text.size = 1) && (cls (bt text 0).toNat == 4) else if kind = 7 then isKeyB text else false
def chkB (kind : Int) (text : ByteArray) : Int := if okB kind text = true then 0 else 2
theorem okR_eq (kind : Int) (text : ByteArray) : okR kind text = okB kind text := by unfold okR okB; rw [isNumR_eq]
theorem chkR_eq (kind : Int) (text : ByteArray) : chkR kind text = chkB kind text := by unfold chkR chkB; rw [okR_eq]
theorem chkB_of {kind : Int} {text : ByteArray} {b : Bool} (h : okB kind text = b) : chkB kind text = if b = true then 0 else 2 := by unfold chkB; rw [h]
end Go.Proofs.YtmapaagdaojpaaaGreatDoor
