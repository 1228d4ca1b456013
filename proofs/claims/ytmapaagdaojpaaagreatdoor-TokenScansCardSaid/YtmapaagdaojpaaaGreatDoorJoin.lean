/- token.Join at names, variables and signs. -/
import Derived.Test.YtmapaagdaojpaaaGreatDoorChk
import Derived.Test.YtmapaagdaojpaaaGreatDoorBld
import Derived.Test.YtmapaagdaojpaaaGreatDoorScw
import Derived.Laws.OwnMore
namespace Go.Proofs.YtmapaagdaojpaaaGreatDoor
open Go.RowKit

def textsB (l : List Tk) : List UInt8 := l.flatMap fun x => x.text.data.toList
theorem isB_below {B b : Nat} {bs : List Value} {w w' : World} (h : IsB B b bs w) (hb : Below w.heap.size w w') : IsB B b bs w' := by
  have go : ∀ p, Lib.BuilderAt 43 5 B b p bs w → Lib.BuilderAt 43 5 B b p bs w' := by
    rintro p ⟨hB, v, hbk, hown, hne⟩
    exact ⟨hB, v, (hb.block _ (Array.getElem?_eq_some_iff.1 hbk).1).trans hbk, (Keep.of_below (S := fun _ => False) hb).owns hown (fun _ _ q => q), hne⟩
  exact h.imp (go _) (go _)
theorem tk_at (l : List Tk) : ∀ (k : Nat) (h : k < l.length), (tkCells l)[k * 3]? = some (.int .i64 l[k].kind) ∧ (tkCells l)[k * 3 + 1]? = some (.string l[k].text) ∧ (tkCells l)[k * 3 + 2]? = some (.int .i64 l[k].at_) := by
  induction l with
  | nil => intro k h; simp at h
  | cons x l ih =>
    intro k h
    cases k with
    | zero => simp [tkCells]
    | succ k =>
      obtain ⟨a, b, c⟩ := ih k (by simpa using h)
      simp only [tkCells, List.flatMap_cons] at a b c ⊢
      refine ⟨?_, ?_, ?_⟩
      · rw [show (k + 1) * 3 = k * 3 + 3 by omega]; simpa using a
      · rw [show (k + 1) * 3 + 1 = k * 3 + 1 + 3 by omega]; simpa using b
      · rw [show (k + 1) * 3 + 2 = k * 3 + 2 + 3 by omega]; simpa using c
theorem tkCells_len (l : List Tk) : (tkCells l).length = l.length * 3 := by
  induction l with
  | nil => rfl
  | cons x l ih => simp only [tkCells, List.flatMap_cons, List.length_append, List.length_cons, List.length_nil] at ih ⊢; omega
set_option maxHeartbeats 2000000 in
set_option maxRecDepth 100000 in
theorem Join_plain (l : List Tk) (vo : Value) (B0 : Nat) (w : World) (hrow : w.ownsRow B0 27 3 vo l.length (tkCells l)) (hne : l ≠ []) (hok : ∀ x ∈ l, plainOk x.kind x.text = true)
    (hap : ∀ i (h : i + 1 < l.length), (apartB l[i].kind && apartB l[i + 1].kind) = false) (hlen : (textsB l).length ≤ 40000) (h0 : textsB l ≠ []) (hll : l.length ≤ 40000) :
    Calls Tryz.prog 13 #[vo] w fun e w' => e = .returned (.tuple #[.string ⟨(textsB l).toArray⟩, .int .i64 0]) ∧ Below w.heap.size w w' := by
  obtain ⟨g, cap, rfl, hgl⟩ : ∃ g cap, vo = .slice (some ⟨g, 0, none⟩) l.length cap ∧ g < w.heap.size := by
    rcases hrow.2 with ⟨_, hz⟩ | ⟨g, cap, cur, hv, _, hh, _⟩
    · exact absurd (List.length_eq_zero_iff.1 hz) hne
    · exact ⟨g, cap, hv, (Array.getElem?_eq_some_iff.1 hh).1⟩
  have HC : Hid (∀ k (h : k < l.length), w.cell? ⟨g, k * 3, none⟩ = some (.int .i64 l[k].kind) ∧ w.cell? ⟨g, k * 3 + 1, none⟩ = some (.string l[k].text) ∧ w.cell? ⟨g, k * 3 + 2, none⟩ = some (.int .i64 l[k].at_)) := Lib.hid fun k h => by
    obtain ⟨a, b, c⟩ := tk_at l k h
    exact ⟨(hrow.cellAt _ (by omega)).trans a, (hrow.cellAt _ (by omega)).trans b, (hrow.cellAt _ (by omega)).trans c⟩
  have HOK : Hid (∀ x ∈ l, plainOk x.kind x.text = true) := hok
  have HAP : Hid (∀ i (h : i + 1 < l.length), (apartB l[i].kind && apartB l[i + 1].kind) = false) := hap
  clear hok hap hrow
  go_enter Tryz.func13, Tryz.ntmps13
  go_wp2
  go_loopw [12] (fun i wr => ∃ k : Nat, k ≤ l.length ∧ i = .int .i64 k ∧ Hid (IsB w.heap.size w.heap.size (Lib.byteCells (textsB (l.take k))) wr) ∧ Hid (Below w.heap.size w wr)) (fun i _ => l.length - (intOf i).toNat)
  case atStart =>
    refine ⟨0, Nat.zero_le _, rfl, Lib.hid (.inl ⟨Nat.le_refl _, _, heap_alloc_new w _, ⟨rfl, .inl ⟨rfl, rfl⟩⟩, by simp [Value.ownBlock]⟩), Lib.hid (below_alloc1 _ _)⟩
  case round =>
    obtain ⟨k, hk, rfl, HB, HW⟩ := hrel
    by_cases hlt : k < l.length
    · have l0 : decide ((k : Int) < (l.length : Int)) = true := decide_eq_true (by omega)
      obtain ⟨q0, q1, q2⟩ := HC.out k hlt
      have r0 := (HW.out.cell (p := ⟨g, k * 3, none⟩) hgl).trans q0
      have r1 := (HW.out.cell (p := ⟨g, k * 3 + 1, none⟩) hgl).trans q1
      have r2 := (HW.out.cell (p := ⟨g, k * 3 + 2, none⟩) hgl).trans q2
      clear q0 q1 q2
      have hx := HOK.out _ (List.getElem_mem hlt)
      have hstep : textsB (l.take (k + 1)) = textsB (l.take k) ++ l[k].text.data.toList := by
        unfold textsB; rw [← List.take_append_getElem hlt, List.flatMap_append]; simp
      have hle : (textsB (l.take (k + 1))).length ≤ (textsB l).length := by
        unfold textsB
        conv => rhs; rw [← List.take_append_drop (k + 1) l, List.flatMap_append, List.length_append]
        omega
      have hprev : ∀ m (e : k = m + 1), (apartB (l[m]'(by omega)).kind && apartB l[k].kind) = false := by
        rintro m rfl; exact HAP.out m hlt
      have hprevc : ∀ m (e : k = m + 1), wr.cell? ⟨g, m * 3, none⟩ = some (.int .i64 (l[m]'(by omega)).kind) ∧ wr.cell? ⟨g, m * 3 + 1, none⟩ = some (.string (l[m]'(by omega)).text) ∧ wr.cell? ⟨g, m * 3 + 2, none⟩ = some (.int .i64 (l[m]'(by omega)).at_) := fun m e => by
        obtain ⟨a, b, c⟩ := HC.out m (by omega)
        exact ⟨(HW.out.cell (p := ⟨g, m * 3, none⟩) hgl).trans a, (HW.out.cell (p := ⟨g, m * 3 + 1, none⟩) hgl).trans b, (HW.out.cell (p := ⟨g, m * 3 + 2, none⟩) hgl).trans c⟩
      generalize l[k] = x at r0 r1 r2 hx hstep hprev
      obtain ⟨kind, text, at_⟩ := x
      dsimp only at r0 r1 r2 hx hstep hprev
      have hgw : g < wr.heap.size := Nat.lt_of_lt_of_le hgl HW.out.size
      have hW := fun w => Write_plain kind text at_ w hx
      have HS := Lib.hid hstep
      have HL := Lib.hid hle
      have HP := Lib.hid hprev
      have HPC := Lib.hid hprevc
      clear hstep hle hprev hprevc
      go_wp2_with fail
      refine (hW _).mono ?_
      rintro e w1 ⟨rfl, hb1⟩
      have hT := (hb1.block wr.heap.size (by simp)).trans (heap_alloc_new wr _)
      have HB1 : Hid (IsB w.heap.size w.heap.size (Lib.byteCells (textsB (l.take k))) w1) := Lib.hid (isB_below (isB_below HB.out (below_alloc1 wr _)) hb1)
      have HWr : Hid (Below wr.heap.size wr w1) := Lib.hid ((below_alloc1 wr (.cells #[.int .i64 kind, .string text, .int .i64 at_] 27)).trans (hb1.mono (by simp)))
      have HW1 : Hid (Below w.heap.size w w1) := Lib.hid (HW.out.trans (HWr.out.mono HW.out.size))
      have hw1 : wr.heap.size < w1.heap.size := (Array.getElem?_eq_some_iff.1 hT).1
      have t0 : w1.cell? ⟨wr.heap.size, 0, none⟩ = some (.int .i64 kind) := by simp [World.cell?, hT]
      have t1 : w1.cell? ⟨wr.heap.size, 1, none⟩ = some (.string text) := by simp [World.cell?, hT]
      have t2 : w1.cell? ⟨wr.heap.size, 2, none⟩ = some (.int .i64 at_) := by simp [World.cell?, hT]
      clear hb1 hT r0 r1 r2 hW
      cases k with
      | zero =>
        go_wp2_with fail
        refine (WriteString_any w.heap.size w.heap.size _ text w1 (HB1).out (by rw [Lib.byteCells_length]; have h1 := HL.out; have h2 := congrArg List.length HS.out; rw [List.length_append] at h2; have h3 : text.data.toList.length = text.size := Array.length_toList; omega) (HW1).out.size).mono ?_
        rintro e w9 ⟨rfl, hU, hbU⟩
        go_wp2_with fail
        go_roundw
        case rel => exact ⟨0 + 1, by omega, by go_num, Lib.hid (by rw [HS.out]; unfold Lib.byteCells; rw [List.map_append]; exact .inr hU), Lib.hid ((HW1).out.trans hbU)⟩
        case measure => simp [intOf]; omega
      | succ m =>
        have wm : IntKind.i64.wrap ((m : Int) + 1 - 1) = m := (IntWalk.i64_in _ (by omega)).trans (by omega)
        have g0 : decide ((0 : Int) < (m : Int) + 1) = true := decide_eq_true (by omega)
        obtain ⟨p0, p1, p2⟩ := HPC.out m rfl
        have hpv := HP.out m rfl
        have hml : m < l.length := by omega
        generalize l[m] = y at p0 p1 p2 hpv
        obtain ⟨ky, ty, ay⟩ := y
        dsimp only at p0 p1 p2 hpv
        have s0 := (HWr.out.cell (p := ⟨g, m * 3, none⟩) hgw).trans p0
        have s1 := (HWr.out.cell (p := ⟨g, m * 3 + 1, none⟩) hgw).trans p1
        have s2 := (HWr.out.cell (p := ⟨g, m * 3 + 2, none⟩) hgw).trans p2
        clear p0 p1 p2
        go_wp2_with fail
        refine (apart_any kind text at_ w1).mono ?_
        rintro e w2 ⟨rfl, hb2⟩
        have HB2 : Hid (IsB w.heap.size w.heap.size (Lib.byteCells (textsB (l.take (m + 1)))) w2) := Lib.hid (isB_below HB1.out hb2)
        have HW2 : Hid (Below w.heap.size w w2) := Lib.hid (HW1.out.trans (hb2.mono HW1.out.size))
        have hgw1 : g < w1.heap.size := by omega
        have z0 := (hb2.cell (p := ⟨g, m * 3, none⟩) hgw1).trans s0
        have z1 := (hb2.cell (p := ⟨g, m * 3 + 1, none⟩) hgw1).trans s1
        have z2 := (hb2.cell (p := ⟨g, m * 3 + 2, none⟩) hgw1).trans s2
        clear s0 s1 s2 hb2
        cases hA : apartB kind with
        | false =>
          go_wp2_with fail
          refine (WriteString_any w.heap.size w.heap.size _ text w2 (HB2).out (by rw [Lib.byteCells_length]; have h1 := HL.out; have h2 := congrArg List.length HS.out; rw [List.length_append] at h2; have h3 : text.data.toList.length = text.size := Array.length_toList; omega) (HW2).out.size).mono ?_
          rintro e w9 ⟨rfl, hU, hbU⟩
          go_wp2_with fail
          go_roundw
          case rel => exact ⟨m + 1 + 1, by omega, by go_num, Lib.hid (by rw [HS.out]; unfold Lib.byteCells; rw [List.map_append]; exact .inr hU), Lib.hid ((HW2).out.trans hbU)⟩
          case measure => simp [intOf]; omega
        | true =>
          rw [hA, Bool.and_true] at hpv
          go_wp2_with fail
          refine (apart_any ky ty ay w2).mono ?_
          rintro e w3 ⟨rfl, hb3⟩
          have HB3 : Hid (IsB w.heap.size w.heap.size (Lib.byteCells (textsB (l.take (m + 1)))) w3) := Lib.hid (isB_below HB2.out hb3)
          have HW3 : Hid (Below w.heap.size w w3) := Lib.hid (HW2.out.trans (hb3.mono HW2.out.size))
          rw [hpv]
          clear hb3
          go_wp2_with fail
          refine (WriteString_any w.heap.size w.heap.size _ text w3 (HB3).out (by rw [Lib.byteCells_length]; have h1 := HL.out; have h2 := congrArg List.length HS.out; rw [List.length_append] at h2; have h3 : text.data.toList.length = text.size := Array.length_toList; omega) (HW3).out.size).mono ?_
          rintro e w9 ⟨rfl, hU, hbU⟩
          go_wp2_with fail
          go_roundw
          case rel => exact ⟨m + 1 + 1, by omega, by go_num, Lib.hid (by rw [HS.out]; unfold Lib.byteCells; rw [List.map_append]; exact .inr hU), Lib.hid ((HW3).out.trans hbU)⟩
          case measure => simp [intOf]; omega
    · have l0 : decide ((k : Int) < (l.length : Int)) = false := decide_eq_false (by omega)
      obtain rfl : k = l.length := by omega
      rw [List.take_length] at HB
      have hL := Tryz.Builder_Len w.heap.size w.heap.size _ wr HB.out
      rw [Lib.byteCells_length] at hL
      have l1 : decide ((40000 : Int) < ((textsB l).length : Int)) = false := decide_eq_false (by omega)
      go_wp2_with fail
      refine hL.mono ?_
      rintro e w1 ⟨rfl, rfl⟩
      clear hL
      go_wp2_with fail
      refine (Tryz.Builder_String w.heap.size w.heap.size (textsB l) w1 HB.out h0).mono ?_
      rintro e w2 ⟨rfl, hb2⟩
      go_wp2_with fail
      go_ret2
      exact ⟨rfl, HW.out.trans hb2⟩
end Go.Proofs.YtmapaagdaojpaaaGreatDoor
