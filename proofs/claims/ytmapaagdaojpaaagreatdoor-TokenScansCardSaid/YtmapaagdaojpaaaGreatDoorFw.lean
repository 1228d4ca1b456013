/- few: are the tokens few and short? -/
import Derived.Test.YtmapaagdaojpaaaGreatDoorJn
namespace Go.Proofs.YtmapaagdaojpaaaGreatDoor
open Go.RowKit

def shortB (l : List Ti) : Bool := l.all fun x => decide (x.text.size ≤ 2000)
def fewB (l : List Ti) : Bool := decide (l.length ≤ 400) && shortB l
theorem short_yes {l : List Ti} (h : ∀ (k : Nat) (hk : k < l.length), l[k].text.size ≤ 2000) : shortB l = true := by
  unfold shortB
  rw [List.all_eq_true]
  intro x hx
  obtain ⟨k, hk, rfl⟩ := List.getElem_of_mem hx
  exact decide_eq_true (h k hk)
theorem short_no {l : List Ti} {k : Nat} (hk : k < l.length) (h : ¬ l[k].text.size ≤ 2000) : shortB l = false := by
  cases e : shortB l with
  | false => rfl
  | true =>
    unfold shortB at e
    rw [List.all_eq_true] at e
    exact absurd (of_decide_eq_true (e _ (List.getElem_mem hk))) h
theorem few_out {l : List Ti} (h : fewB l = true) : l.length ≤ 400 ∧ ∀ x ∈ l, x.text.size ≤ 2000 := by
  unfold fewB shortB at h
  simp only [Bool.and_eq_true, decide_eq_true_eq, List.all_eq_true] at h
  exact h
set_option maxHeartbeats 400000 in
theorem fewF_any (kind : Int) (text : ByteArray) (a : Int) (w : World) :
    Calls Tryz.prog 31 #[.agg #[.int .i64 kind, .string text, .int .i64 a]] w fun e w' => e = .returned (.bool (decide ((2000 : Int) < (text.size : Int)))) ∧ Below w.heap.size w w' := by
  go_enter Tryz.func31, Tryz.ntmps31
  go_wp2
  go_ret
  exact ⟨rfl, below_alloc1 w _⟩
set_option maxHeartbeats 1000000 in
set_option maxRecDepth 100000 in
theorem IndexTok_any (l : List Ti) (ao : Option Addr) (cap : Nat) (w : World) (hrow : TiRow ao l w) (hll : l.length ≤ 400) :
    Calls Tryz.prog 65 #[.slice ao l.length cap, .func (.func 31) #[] #[]] w fun e w' => (∃ r : Int, e = .returned (.int .i64 r) ∧ decide (0 ≤ r) = !shortB l) ∧ Below w.heap.size w w' := by
  have HR := Lib.hid hrow
  clear hrow
  go_enter Tryz.func65, Tryz.ntmps65
  go_wp2
  go_loopw [8] (fun i wr => ∃ k : Nat, k ≤ l.length ∧ i = .int .i64 k ∧ Hid (Below w.heap.size w wr) ∧ Hid (∀ j (h : j < l.length), j < k → l[j].text.size ≤ 2000)) (fun i _ => l.length - (intOf i).toNat)
  case atStart => exact ⟨0, Nat.zero_le _, rfl, Lib.hid (Below.refl _ _), Lib.hid fun j _ hj => by omega⟩
  case round =>
    obtain ⟨k, hk, rfl, HW, HK⟩ := hrel
    by_cases hlt : k < l.length
    · have l0 : decide ((k : Int) < (l.length : Int)) = true := decide_eq_true (by omega)
      have wk : IntKind.i64.wrap ((k : Int) + 1) = k + 1 := IntWalk.i64_in _ (by omega)
      obtain ⟨g, off, rfl, hgl, hcells⟩ := HR.out (by intro q; subst q; simp at hlt)
      obtain ⟨q0, q1, q2⟩ := hcells k hlt
      have r0 := (HW.out.cell (p := ⟨g, off + k * 3, none⟩) hgl).trans q0
      have r1 := (HW.out.cell (p := ⟨g, off + k * 3 + 1, none⟩) hgl).trans q1
      have r2 := (HW.out.cell (p := ⟨g, off + k * 3 + 2, none⟩) hgl).trans q2
      clear q0 q1 q2 hcells
      have HNO : Hid (¬ l[k].text.size ≤ 2000 → shortB l = false) := Lib.hid (short_no hlt)
      have HYES : Hid (l[k].text.size ≤ 2000 → ∀ j (h : j < l.length), j < k + 1 → l[j].text.size ≤ 2000) := Lib.hid fun h j hj h2 => by
        by_cases e : j = k
        · subst e; exact h
        · exact HK.out j hj (by omega)
      generalize l[k] = x at r0 r1 r2 HNO HYES
      obtain ⟨kind, text, at_⟩ := x
      dsimp only at r0 r1 r2 HNO HYES
      have hF := fun w => fewF_any kind text at_ w
      by_cases hs : text.size ≤ 2000
      · have HS := Lib.hid (HYES.out hs)
        rw [show decide ((2000 : Int) < (text.size : Int)) = false from decide_eq_false (by omega)] at hF
        clear hs HNO HYES
        go_wp2_with (go_at_call 31; refine (hF _).mono ?_; rintro e w' ⟨rfl, hb⟩)
        go_roundw
        case rel => exact ⟨k + 1, by omega, by go_num, Lib.hid (HW.out.trans (hb.mono HW.out.size)), HS⟩
        case measure => simp [intOf]; omega
      · have HS := Lib.hid (HNO.out hs)
        rw [show decide ((2000 : Int) < (text.size : Int)) = true from decide_eq_true (by omega)] at hF
        clear hs HNO HYES
        go_wp2_with (go_at_call 31; refine (hF _).mono ?_; rintro e w' ⟨rfl, hb⟩)
        go_ret
        exact ⟨⟨_, rfl, by rw [HS.out]; exact decide_eq_true (by omega)⟩, HW.out.trans (hb.mono HW.out.size)⟩
    · have l0 : decide ((k : Int) < (l.length : Int)) = false := decide_eq_false (by omega)
      have HS : Hid (shortB l = true) := Lib.hid (short_yes fun j hj => HK.out j hj (by omega))
      go_wp2
      go_ret
      exact ⟨⟨_, rfl, by rw [HS.out]; rfl⟩, HW.out⟩
theorem ContainsTok_any (l : List Ti) (ao : Option Addr) (cap : Nat) (w : World) (hrow : TiRow ao l w) (hll : l.length ≤ 400) :
    Calls Tryz.prog 30 #[.slice ao l.length cap, .func (.func 31) #[] #[]] w fun e w' => e = .returned (.bool (!shortB l)) ∧ Below w.heap.size w w' := by
  have hI := IndexTok_any l ao cap w hrow hll
  generalize shortB l = B at hI
  clear hrow
  go_enter Tryz.func30, Tryz.ntmps30
  go_wp2_with fail
  refine hI.mono ?_
  rintro e w1 ⟨⟨r, rfl, hr⟩, hb⟩
  clear hI
  go_wp2
  go_ret
  exact ⟨by rw [← hr]; rfl, hb⟩
theorem few_any (l : List Ti) (ao : Option Addr) (cap : Nat) (w : World) (hrow : TiRow ao l w) :
    Calls Tryz.prog 7 #[.slice ao l.length cap] w fun e w' => e = .returned (.bool (fewB l)) ∧ Below w.heap.size w w' := by
  by_cases hl : l.length ≤ 400
  · have l0 : decide ((l.length : Int) ≤ 400) = true := decide_eq_true (by omega)
    have hC := ContainsTok_any l ao cap w hrow hl
    have HF : Hid (fewB l = shortB l) := Lib.hid (by unfold fewB; rw [decide_eq_true hl, Bool.true_and])
    generalize shortB l = B at hC HF
    clear hrow hl
    go_enter Tryz.func7, Tryz.ntmps7
    go_wp2_with (go_at_call 30; refine hC.mono ?_; rintro e w1 ⟨rfl, hb⟩)
    go_ret
    exact ⟨by rw [HF.out]; simp, hb⟩
  · have l0 : decide ((l.length : Int) ≤ 400) = false := decide_eq_false (by omega)
    have HF : Hid (fewB l = false) := Lib.hid (by unfold fewB; rw [decide_eq_false hl, Bool.false_and])
    clear hrow hl
    go_enter Tryz.func7, Tryz.ntmps7
    go_wp2
    go_ret
    exact ⟨by rw [HF.out]; rfl, Below.refl _ _⟩
def tiCells (l : List Ti) : List Value := l.flatMap fun x => [.int .i64 x.kind, .string x.text, .int .i64 x.at_]
theorem tiCells_len (l : List Ti) : (tiCells l).length = l.length * 3 := by
  induction l with
  | nil => rfl
  | cons x l ih => simp only [tiCells, List.flatMap_cons, List.length_append, List.length_cons, List.length_nil] at ih ⊢; omega
theorem ti_at (l : List Ti) : ∀ (k : Nat) (h : k < l.length), (tiCells l)[k * 3]? = some (.int .i64 l[k].kind) ∧ (tiCells l)[k * 3 + 1]? = some (.string l[k].text) ∧ (tiCells l)[k * 3 + 2]? = some (.int .i64 l[k].at_) := by
  induction l with
  | nil => intro k h; simp at h
  | cons x l ih =>
    intro k h
    cases k with
    | zero => simp [tiCells]
    | succ k =>
      obtain ⟨a, b, c⟩ := ih k (by simpa using h)
      simp only [tiCells, List.flatMap_cons] at a b c ⊢
      refine ⟨?_, ?_, ?_⟩
      · rw [show (k + 1) * 3 = k * 3 + 3 by omega]; simpa using a
      · rw [show (k + 1) * 3 + 1 = k * 3 + 1 + 3 by omega]; simpa using b
      · rw [show (k + 1) * 3 + 2 = k * 3 + 2 + 3 by omega]; simpa using c
theorem tiRow_own {B : Nat} {e : TypeId} {v : Value} {l : List Ti} {w : World} (h : w.ownsRow B e 3 v l.length (tiCells l)) : ∃ ao cap, v = .slice ao l.length cap ∧ TiRow ao l w := by
  rcases h.2 with ⟨e, h0⟩ | ⟨g, cap, cur, e, _, hh, _⟩
  · exact ⟨none, 0, by rw [e, h0], fun hne => absurd (List.length_eq_zero_iff.1 h0) hne⟩
  · refine ⟨_, cap, e, fun _ => ⟨g, 0, rfl, (Array.getElem?_eq_some_iff.1 hh).1, fun k hk => ?_⟩⟩
    subst e
    obtain ⟨a, b, c⟩ := ti_at l k hk
    rw [Nat.zero_add]
    exact ⟨(h.cellAt _ (by omega)).trans a, (h.cellAt _ (by omega)).trans b, (h.cellAt _ (by omega)).trans c⟩
/-- Bytes lie behind a slice's first address. -/
def ByRow (ao : Option Addr) (l : List UInt8) (w : World) : Prop :=
  l ≠ [] → ∃ b off, ao = some ⟨b, off, none⟩ ∧ b < w.heap.size ∧ ∀ (k : Nat) (h : k < l.length), w.cell? ⟨b, off + k, none⟩ = some (.int .u8 (l[k].toNat : Int))
end Go.Proofs.YtmapaagdaojpaaaGreatDoor
