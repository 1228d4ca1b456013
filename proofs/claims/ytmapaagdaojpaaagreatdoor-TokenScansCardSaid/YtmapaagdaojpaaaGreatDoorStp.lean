/- Plain parts of Strip: comments lie in the text; bytes of a row; blanks. -/
import Derived.Test.YtmapaagdaojpaaaGreatDoorPx
import Derived.Test.YtmapaagdaojpaaaGreatDoorSkip
import Derived.Lib.ConvBytes
import Derived.Laws.IdiomStrings
namespace Go.Proofs.YtmapaagdaojpaaaGreatDoor
open Go.RowKit

theorem toks_sp_le (s : ByteArray) : ∀ (n i : Nat) (sp : List (Nat × Nat)) (acc l : List Tk) (sp' : List (Nat × Nat)), i ≤ s.size → (∀ p ∈ sp, p.2 ≤ s.size) → toksN s n i sp acc = .ok l sp' → ∀ p ∈ sp', p.2 ≤ s.size
  | 0, i, sp, acc, l, sp', _, h0, h => by simp only [toksN, ScanR.ok.injEq] at h; rw [← h.2]; exact h0
  | n + 1, i, sp, acc, l, sp', hi, h0, h => by
    unfold toksN at h
    split at h
    · cases h
    · rename_i j sp1 hs
      have hj := skip_le s _ _ _ _ _ hi hs
      obtain ⟨q, hq, hall, _, _⟩ := skip_passed s _ _ _ _ _ hi (by omega) hs
      have h1 : ∀ p ∈ sp1, p.2 ≤ s.size := fun p hp => by
        rw [hq] at hp
        rcases List.mem_append.1 hp with hp | hp
        · exact h0 p hp
        · have := (hall p hp).2; omega
      split at h
      · cases h; exact h1
      · split at h
        · cases h
        · rename_i kind text fin ht
          have hf := tok_lt (by omega) ht
          exact toks_sp_le s n _ _ _ _ _ hf.2 h1 h
theorem scan_sp_le {s : ByteArray} {l : List Tk} {sp : List (Nat × Nat)} (h : scanN s = .ok l sp) : ∀ p ∈ sp, p.2 ≤ s.size := by
  unfold scanN at h
  split at h
  · cases h
  · exact toks_sp_le s _ _ _ _ _ _ (Nat.zero_le _) (by simp) h
theorem skip_few (s : ByteArray) : ∀ (n i : Nat) (sp : List (Nat × Nat)) (j : Nat) (sp' : List (Nat × Nat)), i ≤ s.size → skipN s n i sp = .ok j sp' → sp'.length + i ≤ sp.length + j
  | 0, i, sp, j, sp', _, h => by simp only [skipN, SkipR.ok.injEq] at h; rw [h.1, h.2]; omega
  | n + 1, i, sp, j, sp', hi, h => by
    unfold skipN at h
    split at h
    · rename_i hlt
      split at h
      · have := skip_few s n _ _ _ _ (by omega) h; omega
      · split at h
        · rename_i hst
          have hl := star_lt' hlt hst
          have := skip_few s n _ _ _ _ hl.2 h; simp at this; omega
        · split at h
          · split at h
            · cases h
            · rename_i e he
              have hl := comN_le s _ _ _ he
              have := skip_few s n _ _ _ _ hl.2 h; simp at this; omega
          · cases h; omega
    · cases h; omega
/-- Block o holds the bytes f, up to n. -/
structure OutAt (o : Nat) (f : Nat → UInt8) (n : Nat) (W : World) : Prop where
  cell : ∀ x, x < n → W.cell? ⟨o, x, none⟩ = some (.int .u8 (f x).toNat)
  free : ∀ x, x < n → W.frozen? ⟨o, x, none⟩ = false
theorem OutAt.alloc {o n : Nat} {f : Nat → UInt8} {W : World} (h : OutAt o f n W) (ho : o < W.heap.size) (b : Obj) : OutAt o f n (W.alloc b) :=
  ⟨fun x hx => (World.cell?_alloc_lt W b ⟨o, x, none⟩ ho).trans (h.cell x hx), fun x hx => (World.frozen?_of_block (w := W) (Below.heap_alloc W b o ho)).trans (h.free x hx)⟩
theorem OutAt.put {o n : Nat} {f g : Nat → UInt8} {W : World} (h : OutAt o f n W) (i : Nat) (hi : i < n) (c : UInt8) (hg : ∀ x, x < n → g x = if x = i then c else f x) (v : Value) (hv : v = .int .u8 c.toNat) : OutAt o g n (W.setCell ⟨o, i, none⟩ v) := by
  subst hv
  refine ⟨fun x hx => ?_, fun x hx => ?_⟩
  · rw [hg x hx]
    by_cases e : x = i
    · subst e
      rw [if_pos rfl]
      exact World.cell?_setCell_same _ _ _ (h.cell x hx)
    · rw [if_neg e]
      exact (World.cell?_setCell_other _ _ _ _ (by intro q; cases q; exact e rfl)).trans (h.cell x hx)
  · rw [World.frozen?_setCell]; exact h.free x hx
theorem OutAt.congr {o n : Nat} {f g : Nat → UInt8} {W : World} (h : OutAt o f n W) (hg : ∀ x, x < n → g x = f x) : OutAt o g n W :=
  ⟨fun x hx => by rw [hg x hx]; exact h.cell x hx, h.free⟩
theorem blank_one (s : ByteArray) (q : List (Nat × Nat)) (a i x : Nat) : blank s (q ++ [(a, i)]) x = if (inSp q x || (decide (a ≤ x) && decide (x < i))) && bu s x != 10 then 32 else bu s x := by
  have e : inSp [(a, i)] x = (decide (a ≤ x) && decide (x < i)) := by simp [inSp]
  unfold blank; rw [inSp_append, e]
theorem blank_start (s : ByteArray) (q : List (Nat × Nat)) (a x : Nat) : blank s (q ++ [(a, a)]) x = blank s q x := by
  rw [blank_one]; unfold blank
  have : (decide (a ≤ x) && decide (x < a)) = false := by simp
  rw [this, Bool.or_false]
theorem blank_next (s : ByteArray) (q : List (Nat × Nat)) {a i x : Nat} (ha : a ≤ i) : blank s (q ++ [(a, i + 1)]) x = if x = i then (if bu s i = 10 then 10 else 32) else blank s (q ++ [(a, i)]) x := by
  rw [blank_one, blank_one]
  by_cases e : x = i
  · subst e
    rw [if_pos rfl]
    have : (decide (a ≤ x) && decide (x < x + 1)) = true := by simp [ha]
    rw [this, Bool.or_true, Bool.true_and]
    by_cases h : bu s x = 10 <;> simp [h]
  · rw [if_neg e]
    have : (decide (a ≤ x) && decide (x < i + 1)) = (decide (a ≤ x) && decide (x < i)) := by
      rw [Bool.eq_iff_iff]; simp; omega
    rw [this]
theorem blank_lf (s : ByteArray) (q : List (Nat × Nat)) (x : Nat) : blank s q x = 10 ↔ bu s x = 10 := by
  unfold blank
  by_cases h : bu s x = 10
  · simp [h]
  · cases inSp q x <;> simp [h]
theorem u8_int (a b : UInt8) : ((a.toNat : Int) = b.toNat) ↔ a = b := by
  constructor
  · intro h; apply UInt8.toNat_inj.1; omega
  · rintro rfl; rfl
def StripOut (s : ByteArray) (w : World) (R : ScanR) (e : Ending) (W' : World) : Prop :=
  Below w.heap.size w W' ∧ match R with
  | .bad c x => e = .returned (.tuple #[.string ⟨#[]⟩, .int .i64 x, .int .i64 c])
  | .ok _ sp => e = .returned (.tuple #[.string (stripB s sp), .int .i64 0, .int .i64 0])
theorem tok_code {s : ByteArray} {i x : Nat} {c : Int} (h : tokN s i = .bad c x) : ¬ c = 0 := by
  have hn : ∀ {k : Int} {a b : Nat}, near s k a b = .bad c x → ¬ c = 0 := fun h => by
    unfold near at h; split at h
    · cases h; decide
    · cases h
  unfold tokN at h
  split at h
  · unfold quoR at h
    split at h
    · cases h; decide
    · split at h
      · cases h
      · split at h
        · cases h; decide
        · cases h
  · split at h
    · cases h
    · split at h
      · split at h
        · cases h; decide
        · exact hn h
      · split at h
        · split at h
          · cases h; decide
          · exact hn h
        · split at h
          · split at h
            · exact hn h
            · cases h; decide
          · split at h
            · generalize (if cls (bt s (i + 1)).toNat = 2 then runTo s (inner dashes) (i + 1) else i + 1) = E at h
              split at h
              · exact hn h
              · cases h; decide
            · cases h; decide
theorem toks_code (s : ByteArray) : ∀ (n i : Nat) (sp : List (Nat × Nat)) (acc : List Tk) (c : Int) (x : Nat), toksN s n i sp acc = .bad c x → ¬ c = 0
  | 0, i, sp, acc, c, x, h => by simp [toksN] at h
  | n + 1, i, sp, acc, c, x, h => by
    unfold toksN at h
    split at h
    · cases h; decide
    · split at h
      · cases h
      · split at h
        · rename_i ht; cases h; exact tok_code ht
        · exact toks_code s n _ _ _ _ _ h
theorem scan_code {s : ByteArray} {c : Int} {x : Nat} (h : scanN s = .bad c x) : ¬ c = 0 := by
  unfold scanN at h
  split at h
  · cases h; decide
  · exact toks_code s _ _ _ _ _ _ h
theorem sp_at (sp : List (Nat × Nat)) (k : Nat) (h : k < sp.length) : (spCells sp)[k * 2]? = some (.int .i64 sp[k].1) ∧ (spCells sp)[k * 2 + 1]? = some (.int .i64 sp[k].2) := by
  induction sp generalizing k with
  | nil => simp at h
  | cons x l ih =>
    cases k with
    | zero => simp [spCells]
    | succ k =>
      obtain ⟨a, b⟩ := ih k (by simpa using h)
      simp only [spCells, List.flatMap_cons] at a b ⊢
      refine ⟨?_, ?_⟩
      · rw [show (k + 1) * 2 = k * 2 + 2 by omega]; simpa using a
      · rw [show (k + 1) * 2 + 1 = k * 2 + 1 + 2 by omega]; simpa using b
theorem spCells_len (l : List (Nat × Nat)) : (spCells l).length = l.length * 2 := by
  induction l with
  | nil => rfl
  | cons x l ih => simp only [spCells, List.flatMap_cons, List.length_append, List.length_cons, List.length_nil] at ih ⊢; omega
/-- '[]byte(s)'. -/
theorem open_bytes (s : ByteArray) (w : World) : ∃ cap W, (convert 9 37 (.string s)).run Tryz.prog w = .ok (.slice (some ⟨w.heap.size, 0, none⟩) s.size cap) W ∧ OutAt w.heap.size (bu s) s.size W ∧ Below w.heap.size w W ∧ w.heap.size < W.heap.size := by
  refine ⟨_, _, Lib.run_convert_string_bytes (P := Tryz.prog) w 9 37 5 s (u := .string) (by kernel_rfl) (by kernel_rfl) (by kernel_rfl), ⟨fun x hx => ?_, fun x hx => ?_⟩, ⟨rfl, rfl, rfl, by rw [Lib.bytesWorld_size]; omega, fun k hk => Lib.bytesWorld_at_old w _ s k hk⟩, by rw [Lib.bytesWorld_size]; omega⟩
  · rw [Lib.bytesWorld_cell w _ s x hx]
    have : s.data.toList.getD x 0 = bu s x := by
      unfold bu
      rw [dif_pos hx]
      have : x < s.data.toList.length := by rw [Array.length_toList]; exact hx
      rw [List.getD, List.getElem?_eq_getElem this, Option.getD_some, Array.getElem_toList]; rfl
    rw [this]
  · have := Lib.bytesWorld_at_new w 5 s
    have hz : (Lib.bytesCells w 5 s).size ≥ s.size := by
      unfold Lib.bytesCells
      rw [Array.size_append, Array.size_map]
      show s.data.size + _ ≥ s.data.size
      omega
    simp [World.frozen?, this]; omega
/-- 'string(b)' of a row of bytes. -/
theorem close_bytes (t : ByteArray) (o cap : Nat) (W : World) (h : OutAt o (bu t) t.size W) : (convert 37 9 (.slice (some ⟨o, 0, none⟩) t.size cap)).run Tryz.prog W = .ok (.string t) W := by
  have hl : t.data.toList.length = t.size := Array.length_toList
  have := run_convert_bytes_back (P := Tryz.prog) W 37 9 5 ⟨o, 0, none⟩ cap t.data.toList (by kernel_rfl) (by kernel_rfl) (by kernel_rfl) (fun j hj => by
    have hj' : j < t.size := by omega
    have e := h.cell j hj'
    unfold bu at e
    rw [dif_pos hj'] at e
    rw [Array.getElem_toList]
    rw [Addr.add_lit, Nat.zero_add]
    exact e)
  rw [hl] at this
  simpa using this
theorem blank_done (s : ByteArray) (q : List (Nat × Nat)) {a e i : Nat} (_h1 : a ≤ i) (h2 : i ≤ e ∨ i = a) (h3 : ¬ i < e) (x : Nat) : blank s (q ++ [(a, e)]) x = blank s (q ++ [(a, i)]) x := by
  rw [blank_one, blank_one]
  have : (decide (a ≤ x) && decide (x < e)) = (decide (a ≤ x) && decide (x < i)) := by
    rw [Bool.eq_iff_iff]; simp; omega
  rw [this]
theorem blank_nil (s : ByteArray) (x : Nat) : blank s [] x = bu s x := by simp [blank, inSp]
end Go.Proofs.YtmapaagdaojpaaaGreatDoor
