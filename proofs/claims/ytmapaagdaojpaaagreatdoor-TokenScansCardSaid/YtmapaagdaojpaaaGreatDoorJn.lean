/- token.Join and the reference's Join, at every list. -/
import Derived.Test.YtmapaagdaojpaaaGreatDoorWt
import Derived.Test.YtmapaagdaojpaaaGreatDoorBld
import Derived.Laws.OwnMore
namespace Go.Proofs.YtmapaagdaojpaaaGreatDoor
open Go.RowKit

/-- A row of tokens: what lies behind a slice's first address. -/
def TiRow (ao : Option Addr) (l : List Ti) (w : World) : Prop :=
  l ≠ [] → ∃ b off, ao = some ⟨b, off, none⟩ ∧ b < w.heap.size ∧ ∀ (k : Nat) (h : k < l.length), w.cell? ⟨b, off + k * 3, none⟩ = some (.int .i64 l[k].kind) ∧ w.cell? ⟨b, off + k * 3 + 1, none⟩ = some (.string l[k].text) ∧ w.cell? ⟨b, off + k * 3 + 2, none⟩ = some (.int .i64 l[k].at_)
theorem TiRow.below {ao : Option Addr} {l : List Ti} {w w' : World} (h : TiRow ao l w) (hb : Below w.heap.size w w') : TiRow ao l w' := fun hne => by
  obtain ⟨b, off, e, hlt, hc⟩ := h hne
  refine ⟨b, off, e, Nat.lt_of_lt_of_le hlt hb.size, fun k hk => ?_⟩
  obtain ⟨c0, c1, c2⟩ := hc k hk
  exact ⟨(hb.cell (p := ⟨b, off + k * 3, none⟩) hlt).trans c0, (hb.cell (p := ⟨b, off + k * 3 + 1, none⟩) hlt).trans c1, (hb.cell (p := ⟨b, off + k * 3 + 2, none⟩) hlt).trans c2⟩
theorem isB_low {B b : Nat} {bs : List Value} {w w' : World} (h : IsB B b bs w) (hb : Below w.heap.size w w') : IsB B b bs w' := by
  have go : ∀ p, Lib.BuilderAt 43 5 B b p bs w → Lib.BuilderAt 43 5 B b p bs w' := by
    rintro p ⟨hB, v, hbk, hown, hne⟩
    exact ⟨hB, v, (hb.block _ (Array.getElem?_eq_some_iff.1 hbk).1).trans hbk, (Keep.of_below (S := fun _ => False) hb).owns hown (fun _ _ q => q), hne⟩
  exact h.imp (go _) (go _)
set_option maxHeartbeats 4000000 in
set_option maxRecDepth 100000 in
theorem Join_any (l : List Ti) (ao : Option Addr) (cap : Nat) (w : World) (hrow : TiRow ao l w) (hM : ∀ x ∈ l, x.text.size ≤ 2000) (hll : l.length ≤ 400) :
    Calls Tryz.prog 13 #[.slice ao l.length cap] w fun e w' => e = .returned (.tuple #[.string (joinB l).1, .int .i64 (joinB l).2]) ∧ Below w.heap.size w w' := by
  have HR := Lib.hid hrow
  have HM := Lib.hid hM
  clear hrow hM
  have hJL : ∀ k, k ≤ l.length → (joinTo l k).length ≤ 3300000 := fun k hk => by
    have h1 := joinTo_le HM.out k hk
    have h2 : k * (4 * 2000 + 3) ≤ 400 * 8003 := Nat.mul_le_mul (by omega) (by omega)
    omega
  have HJL := Lib.hid hJL
  clear hJL
  go_enter Tryz.func13, Tryz.ntmps13
  go_wp2
  go_loopw [12] (fun i wr => ∃ k : Nat, k ≤ l.length ∧ i = .int .i64 k ∧ Hid (IsB w.heap.size w.heap.size (Lib.byteCells (joinTo l k)) wr) ∧ Hid (Below w.heap.size w wr) ∧ Hid (∀ j (h : j < l.length), j < k → chkB l[j].kind l[j].text = 0)) (fun i _ => l.length - (intOf i).toNat)
  case atStart =>
    refine ⟨0, Nat.zero_le _, rfl, Lib.hid (.inl ⟨Nat.le_refl _, _, heap_alloc_new w _, ⟨rfl, .inl ⟨rfl, rfl⟩⟩, by simp [Value.ownBlock]⟩), Lib.hid (below_alloc1 _ _), Lib.hid fun j _ h => by omega⟩
  case round =>
    obtain ⟨k, hk, rfl, HB, HW, HOK⟩ := hrel
    by_cases hlt : k < l.length
    · have l0 : decide ((k : Int) < (l.length : Int)) = true := decide_eq_true (by omega)
      obtain ⟨g, off, rfl, hgl, hcells⟩ := HR.out (by intro q; subst q; simp at hlt)
      have HC := Lib.hid hcells
      clear hcells
      obtain ⟨q0, q1, q2⟩ := HC.out k hlt
      have r0 := (HW.out.cell (p := ⟨g, off + k * 3, none⟩) hgl).trans q0
      have r1 := (HW.out.cell (p := ⟨g, off + k * 3 + 1, none⟩) hgl).trans q1
      have r2 := (HW.out.cell (p := ⟨g, off + k * 3 + 2, none⟩) hgl).trans q2
      clear q0 q1 q2
      have HX : Hid (l[k].text.size ≤ 2000) := Lib.hid (HM.out _ (List.getElem_mem hlt))
      have HSEG : Hid (joinTo l (k + 1) = joinTo l k ++ ((if gapAt l k then [32] else []) ++ (textB l[k].kind l[k].text).data.toList)) := Lib.hid (by rw [joinTo_succ, segB_at hlt])
      have HGAP : Hid (∀ m (e : k = m + 1), gapAt l k = (gapK l[k].kind && gapK (l[m]'(by omega)).kind)) := Lib.hid (by rintro m rfl; exact gapAt_succ hlt)
      have HBAD : Hid (¬ chkB l[k].kind l[k].text = 0 → joinB l = (ByteArray.empty, 2)) := Lib.hid (joinB_bad hlt)
      have HOK2 : Hid (chkB l[k].kind l[k].text = 0 → ∀ j (h : j < l.length), j < k + 1 → chkB l[j].kind l[j].text = 0) := Lib.hid fun h j hj h2 => by
        by_cases e : j = k
        · subst e; exact h
        · exact HOK.out j hj (by omega)
      have hgw : g < wr.heap.size := Nat.lt_of_lt_of_le hgl HW.out.size
      generalize l[k] = x at r0 r1 r2 HX HSEG HGAP HBAD HOK2
      obtain ⟨kind, text, at_⟩ := x
      dsimp only at r0 r1 r2 HX HSEG HGAP HBAD HOK2
      have hW := fun w => Write_any kind text at_ w (by have := HX.out; omega)
      go_wp2_with fail
      refine (hW _).mono ?_
      rintro e w1 ⟨rfl, hb1⟩
      rcases chkB_code kind text with hc | hc
      · have HWB : Hid (writeB kind text = textB kind text) := Lib.hid (by unfold writeB; rw [if_pos hc])
        have HOK3 := Lib.hid (HOK2.out hc)
        have HT : Hid ((textB kind text).size ≤ 8002) := Lib.hid (by have := textB_len kind text; have := HX.out; omega)
        rw [hc, HWB.out]
        clear HOK2 hc HWB HBAD HX
        generalize textB kind text = T at HSEG HT ⊢
        have hT := (hb1.block wr.heap.size (by simp)).trans (heap_alloc_new wr _)
        have HB1 : Hid (IsB w.heap.size w.heap.size (Lib.byteCells (joinTo l k)) w1) := Lib.hid (isB_low (isB_low HB.out (below_alloc1 wr _)) hb1)
        have HWr : Hid (Below wr.heap.size wr w1) := Lib.hid ((below_alloc1 wr (.cells #[.int .i64 kind, .string text, .int .i64 at_] 27)).trans (hb1.mono (by simp)))
        have HW1 : Hid (Below w.heap.size w w1) := Lib.hid (HW.out.trans (HWr.out.mono HW.out.size))
        have hw1 : wr.heap.size < w1.heap.size := (Array.getElem?_eq_some_iff.1 hT).1
        have t0 : w1.cell? ⟨wr.heap.size, 0, none⟩ = some (.int .i64 kind) := by simp [World.cell?, hT]
        have t1 : w1.cell? ⟨wr.heap.size, 1, none⟩ = some (.string text) := by simp [World.cell?, hT]
        have t2 : w1.cell? ⟨wr.heap.size, 2, none⟩ = some (.int .i64 at_) := by simp [World.cell?, hT]
        clear hb1 hT r0 r1 r2 hW
        cases k with
        | zero =>
          go_wp2_with fail
          refine (WriteString_any w.heap.size w.heap.size _ T w1 (HB1).out (by rw [Lib.byteCells_length]; have h1 := HJL.out _ hk; have h3 := HT.out; omega) (HW1).out.size).mono ?_
          rintro e w9 ⟨rfl, hU, hbU⟩
          go_wp2_with fail
          go_roundw
          case rel => exact ⟨0 + 1, by omega, by go_num, Lib.hid (by rw [HSEG.out]; unfold Lib.byteCells; rw [gapAt_zero, if_neg (by decide), List.nil_append]; rw [List.map_append]; exact .inr hU), Lib.hid ((HW1).out.trans hbU), HOK3⟩
          case measure => simp [intOf]; omega
        | succ m =>
          have wm : IntKind.i64.wrap ((m : Int) + 1 - 1) = m := (IntWalk.i64_in _ (by omega)).trans (by omega)
          have g0 : decide ((0 : Int) < (m : Int) + 1) = true := decide_eq_true (by omega)
          obtain ⟨p0, p1, p2⟩ := HC.out m (by omega)
          have hpv := HGAP.out m rfl
          have hml : m < l.length := by omega
          generalize l[m] = y at p0 p1 p2 hpv
          obtain ⟨ky, ty, ay⟩ := y
          dsimp only at p0 p1 p2 hpv
          have s0 := (HWr.out.cell (p := ⟨g, off + m * 3, none⟩) hgw).trans ((HW.out.cell (p := ⟨g, off + m * 3, none⟩) hgl).trans p0)
          have s1 := (HWr.out.cell (p := ⟨g, off + m * 3 + 1, none⟩) hgw).trans ((HW.out.cell (p := ⟨g, off + m * 3 + 1, none⟩) hgl).trans p1)
          have s2 := (HWr.out.cell (p := ⟨g, off + m * 3 + 2, none⟩) hgw).trans ((HW.out.cell (p := ⟨g, off + m * 3 + 2, none⟩) hgl).trans p2)
          have HPV := Lib.hid hpv
          clear p0 p1 p2 hpv
          go_wp2_with fail
          refine (apart_any kind text at_ w1).mono ?_
          rintro e w2 ⟨rfl, hb2⟩
          have HB2 : Hid (IsB w.heap.size w.heap.size (Lib.byteCells (joinTo l (m + 1))) w2) := Lib.hid (isB_low HB1.out hb2)
          have HW2 : Hid (Below w.heap.size w w2) := Lib.hid (HW1.out.trans (hb2.mono HW1.out.size))
          have hgw1 : g < w1.heap.size := by omega
          have z0 := (hb2.cell (p := ⟨g, off + m * 3, none⟩) hgw1).trans s0
          have z1 := (hb2.cell (p := ⟨g, off + m * 3 + 1, none⟩) hgw1).trans s1
          have z2 := (hb2.cell (p := ⟨g, off + m * 3 + 2, none⟩) hgw1).trans s2
          clear s0 s1 s2 hb2
          cases hA : apartB kind with
          | false =>
            have HG : Hid (gapAt l (m + 1) = false) := Lib.hid (HPV.out.trans (by show (apartB kind && _) = _; rw [hA]; rfl))
            go_wp2_with fail
            refine (WriteString_any w.heap.size w.heap.size _ T w2 (HB2).out (by rw [Lib.byteCells_length]; have h1 := HJL.out _ hk; have h3 := HT.out; omega) (HW2).out.size).mono ?_
            rintro e w9 ⟨rfl, hU, hbU⟩
            go_wp2_with fail
            go_roundw
            case rel => exact ⟨m + 1 + 1, by omega, by go_num, Lib.hid (by rw [HSEG.out]; unfold Lib.byteCells; rw [HG.out, if_neg (by decide), List.nil_append]; rw [List.map_append]; exact .inr hU), Lib.hid ((HW2).out.trans hbU), HOK3⟩
            case measure => simp [intOf]; omega
          | true =>
            have HG1 : Hid (gapAt l (m + 1) = apartB ky) := Lib.hid (HPV.out.trans (by show (apartB kind && _) = _; rw [hA]; rfl))
            go_wp2_with fail
            refine (apart_any ky ty ay w2).mono ?_
            rintro e w3 ⟨rfl, hb3⟩
            have HB3 : Hid (IsB w.heap.size w.heap.size (Lib.byteCells (joinTo l (m + 1))) w3) := Lib.hid (isB_low HB2.out hb3)
            have HW3 : Hid (Below w.heap.size w w3) := Lib.hid (HW2.out.trans (hb3.mono HW2.out.size))
            clear hb3
            cases hA2 : apartB ky with
            | false =>
              have HG : Hid (gapAt l (m + 1) = false) := Lib.hid (HG1.out.trans hA2)
              go_wp2_with fail
              refine (WriteString_any w.heap.size w.heap.size _ T w3 (HB3).out (by rw [Lib.byteCells_length]; have h1 := HJL.out _ hk; have h3 := HT.out; omega) (HW3).out.size).mono ?_
              rintro e w9 ⟨rfl, hU, hbU⟩
              go_wp2_with fail
              go_roundw
              case rel => exact ⟨m + 1 + 1, by omega, by go_num, Lib.hid (by rw [HSEG.out]; unfold Lib.byteCells; rw [HG.out, if_neg (by decide), List.nil_append]; rw [List.map_append]; exact .inr hU), Lib.hid ((HW3).out.trans hbU), HOK3⟩
              case measure => simp [intOf]; omega
            | true =>
              have HG : Hid (gapAt l (m + 1) = true) := Lib.hid (HG1.out.trans hA2)
              go_wp2_with fail
              refine (WriteByte_any w.heap.size w.heap.size _ 32 w3 (HB3).out (by rw [Lib.byteCells_length]; have h1 := HJL.out _ hk; omega) (HW3).out.size).mono ?_
              rintro e w4 ⟨rfl, hU4, hb4⟩
              have HB4 : Hid (IsB w.heap.size w.heap.size (Lib.byteCells (joinTo l (m + 1)) ++ [.int .u8 32]) w4) := Lib.hid (.inr hU4)
              have HW4 : Hid (Below w.heap.size w w4) := Lib.hid (HW3.out.trans hb4)
              clear hU4 hb4
              go_wp2_with fail
              refine (WriteString_any w.heap.size w.heap.size _ T w4 (HB4).out (by rw [List.length_append, Lib.byteCells_length]; have h1 := HJL.out _ hk; have h3 := HT.out; simp only [List.length_cons, List.length_nil]; omega) (HW4).out.size).mono ?_
              rintro e w9 ⟨rfl, hU, hbU⟩
              go_wp2_with fail
              go_roundw
              case rel => exact ⟨m + 1 + 1, by omega, by go_num, Lib.hid (by rw [HSEG.out]; unfold Lib.byteCells; rw [HG.out, if_pos rfl]; rw [List.map_append, List.map_append, ← List.append_assoc]; exact .inr hU), Lib.hid ((HW4).out.trans hbU), HOK3⟩
              case measure => simp [intOf]; omega
      · have HE : Hid (joinB l = (ByteArray.empty, 2)) := Lib.hid (HBAD.out (by rw [hc]; decide))
        have HWr : Hid (Below wr.heap.size wr w1) := Lib.hid ((below_alloc1 wr (.cells #[.int .i64 kind, .string text, .int .i64 at_] 27)).trans (hb1.mono (by simp)))
        rw [hc]
        clear hc HBAD HOK2 hW hb1 HSEG HGAP
        generalize writeB kind text = T
        go_wp2_with fail
        go_ret2
        exact ⟨by rw [HE.out]; rfl, HW.out.trans (HWr.out.mono HW.out.size)⟩
    · have l0 : decide ((k : Int) < (l.length : Int)) = false := decide_eq_false (by omega)
      obtain rfl : k = l.length := by omega
      have HJ : Hid (joinB l = if 40000 < (joinTo l l.length).length then (ByteArray.empty, 7) else (⟨(joinTo l l.length).toArray⟩, 0)) := Lib.hid (by
        unfold joinB; rw [bad_none (fun k h => HOK.out k h h)])
      have hL := Tryz.Builder_Len w.heap.size w.heap.size _ wr HB.out
      rw [Lib.byteCells_length] at hL
      by_cases h4 : 40000 < (joinTo l l.length).length
      · have l1 : decide ((40000 : Int) < ((joinTo l l.length).length : Int)) = true := decide_eq_true (by omega)
        have HJ2 : Hid (joinB l = (ByteArray.empty, 7)) := Lib.hid (by rw [HJ.out, if_pos h4])
        clear h4
        go_wp2_with fail
        refine hL.mono ?_
        rintro e w1 ⟨rfl, rfl⟩
        clear hL
        go_wp2_with fail
        go_ret2
        exact ⟨by rw [HJ2.out]; rfl, HW.out⟩
      · have l1 : decide ((40000 : Int) < ((joinTo l l.length).length : Int)) = false := decide_eq_false (by omega)
        have HJ2 : Hid (joinB l = (⟨(joinTo l l.length).toArray⟩, 0)) := Lib.hid (by rw [HJ.out, if_neg h4])
        clear h4
        go_wp2_with fail
        refine hL.mono ?_
        rintro e w1 ⟨rfl, rfl⟩
        clear hL
        go_wp2_with fail
        refine (Tryz.Builder_String_any w.heap.size w.heap.size (joinTo l l.length) w1 HB.out HW.out.size).mono ?_
        rintro e w2 ⟨rfl, hb2⟩
        go_wp2_with fail
        go_ret2
        exact ⟨by rw [HJ2.out]; rfl, HW.out.trans hb2⟩
end Go.Proofs.YtmapaagdaojpaaaGreatDoor
