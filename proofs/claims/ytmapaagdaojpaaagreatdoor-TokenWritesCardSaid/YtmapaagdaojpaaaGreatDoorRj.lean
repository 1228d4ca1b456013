/- The reference's Join, at every list. -/
import Derived.Test.YtmapaagdaojpaaaGreatDoorJn
namespace Go.Proofs.YtmapaagdaojpaaaGreatDoor
open Go.RowKit

set_option maxHeartbeats 400000 in
theorem rnear_any (k : Int) (w : World) :
    Calls Tryz.prog 45 #[.int .i64 k] w fun e w' => e = .returned (.bool (gapK k)) ∧ w' = w := by
  have e : gapK k = (k == 3 || k == 4 || k == 5 || k == 7) := by
    unfold gapK
    rw [Bool.eq_iff_iff]
    simp [or_assoc]
  rw [e]
  clear e
  go_enter Tryz.func45, Tryz.ntmps45
  go_wp2
  all_goals go_ret
  all_goals (refine ⟨?_, rfl⟩; simp_all)
/-- What the reference's Join has written. -/
structure JOut (l : List Ti) (k : Nat) (t : ByteArray) : Prop where
  is : t.data.toList = joinTo l k ∨ (40000 < t.size ∧ 40000 < (joinTo l k).length)
  len : t.size ≤ 48100 + k
theorem JOut.more {l : List Ti} {k : Nat} {t : ByteArray} (h : JOut l k t) (gap T : List UInt8) (hj : joinTo l (k + 1) = joinTo l k ++ (gap ++ T)) (hT : T.length ≤ 8002) (hg : gap.length ≤ 1) (t' : ByteArray) (ht : t'.data.toList = t.data.toList ++ (gap ++ T))
    (hs : t.size + gap.length ≤ 40000) : JOut l (k + 1) t' := by
  have hz : t.data.toList.length = t.size := Array.length_toList
  have hz2 : t'.data.toList.length = t'.size := Array.length_toList
  have h1 := congrArg List.length ht
  rw [List.length_append, List.length_append] at h1
  refine ⟨.inl ?_, by omega⟩
  rcases h.is with q | q
  · rw [ht, hj, q]
  · omega
theorem JOut.stay {l : List Ti} {k : Nat} {t : ByteArray} (h : JOut l k t) (gap T : List UInt8) (hj : joinTo l (k + 1) = joinTo l k ++ (gap ++ T)) (hg : gap.length ≤ 1) (t' : ByteArray) (ht : t'.data.toList = t.data.toList ++ gap)
    (hs : 40000 < t.size + gap.length) : JOut l (k + 1) t' := by
  have hz : t.data.toList.length = t.size := Array.length_toList
  have hz2 : t'.data.toList.length = t'.size := Array.length_toList
  have h1 := congrArg List.length ht
  have h2 := congrArg List.length hj
  rw [List.length_append] at h1
  rw [List.length_append, List.length_append] at h2
  have hl := h.len
  refine ⟨.inr ⟨by omega, ?_⟩, by omega⟩
  rcases h.is with q | q
  · rw [← q] at h2; omega
  · omega
set_option maxHeartbeats 4000000 in
set_option maxRecDepth 100000 in
theorem rJoin_any (l : List Ti) (ao : Option Addr) (cap : Nat) (w : World) (hrow : TiRow ao l w) (hM : ∀ x ∈ l, x.text.size ≤ 2000) (hll : l.length ≤ 400) :
    Calls Tryz.prog 14 #[.slice ao l.length cap] w fun e w' => e = .returned (.tuple #[.string (joinB l).1, .int .i64 (joinB l).2]) ∧ Below w.heap.size w w' := by
  have HR := Lib.hid hrow
  have HM := Lib.hid hM
  clear hrow hM
  go_enter Tryz.func14, Tryz.ntmps14
  go_wp2
  go_loopw [5, 4] (fun i o wr => ∃ (k : Nat) (t : ByteArray), k ≤ l.length ∧ i = .int .i64 k ∧ o = .string t ∧ Hid (JOut l k t) ∧ Hid (Below w.heap.size w wr) ∧ Hid (∀ j (h : j < l.length), j < k → chkB l[j].kind l[j].text = 0)) (fun i _ _ => l.length - (intOf i).toNat)
  case atStart => exact ⟨0, _, Nat.zero_le _, rfl, rfl, Lib.hid ⟨.inl (by simp [joinTo]), Nat.zero_le _⟩, Lib.hid (Below.refl _ _), Lib.hid fun j _ h => by omega⟩
  case round =>
    obtain ⟨k, t, hk, rfl, rfl, HJ, HW, HOK⟩ := hrel
    have htl := HJ.out.len
    by_cases hlt : k < l.length
    · have l0 : decide ((k : Int) < (l.length : Int)) = true := decide_eq_true (by omega)
      have wk : IntKind.i64.wrap ((k : Int) + 1) = k + 1 := IntWalk.i64_in _ (by omega)
      obtain ⟨g, off, rfl, hgl, hcells⟩ := HR.out (by intro q; subst q; simp at hlt)
      have HC := Lib.hid hcells
      clear hcells
      obtain ⟨q0, q1, q2⟩ := HC.out k hlt
      have r0 := (HW.out.cell (p := ⟨g, off + k * 3, none⟩) hgl).trans q0
      have r1 := (HW.out.cell (p := ⟨g, off + k * 3 + 1, none⟩) hgl).trans q1
      have r2 := (HW.out.cell (p := ⟨g, off + k * 3 + 2, none⟩) hgl).trans q2
      clear q0 q1 q2
      have HX : Hid (l[k].text.size ≤ 2000) := Lib.hid (HM.out _ (List.getElem_mem hlt))
      have HSEG : Hid (joinTo l (k + 1) = joinTo l k ++ ((if gapAt l k then [32] else []) ++ (textB l[k].kind l[k].text).data.toList)) := Lib.hid (by rw [joinTo_succ, segB_at hlt])
      have HGAP : Hid (∀ m (e : k = m + 1), gapAt l k = (gapK l[k].kind && gapK (l[m]'(by omega)).kind)) := Lib.hid (by rintro m rfl; exact gapAt_succ hlt)
      have HBAD : Hid (¬ chkB l[k].kind l[k].text = 0 → joinB l = (ByteArray.empty, 2)) := Lib.hid (joinB_bad hlt)
      have HOK2 : Hid (chkB l[k].kind l[k].text = 0 → ∀ j (h : j < l.length), j < k + 1 → chkB l[j].kind l[j].text = 0) := Lib.hid fun h j hj h2 => by
        by_cases e : j = k
        · subst e; exact h
        · exact HOK.out j hj (by omega)
      have hgw : g < wr.heap.size := Nat.lt_of_lt_of_le hgl HW.out.size
      generalize l[k] = x at r0 r1 r2 HX HSEG HGAP HBAD HOK2
      obtain ⟨kind, text, at_⟩ := x
      dsimp only at r0 r1 r2 HX HSEG HGAP HBAD HOK2
      have hW := fun w => rWrite_any kind text at_ w (by have := HX.out; omega)
      have HTL : Hid ((textB kind text).data.toList.length ≤ 8002) := Lib.hid (by
        have h1 := textB_len kind text
        have h2 : (textB kind text).data.toList.length = (textB kind text).size := Array.length_toList
        have := HX.out; omega)
      cases k with
      | zero =>
        simp only [Nat.zero_mul, Nat.add_zero] at r0 r1 r2
        go_wp2_with fail
        refine (hW _).mono ?_
        rintro e w1 ⟨rfl, hb1⟩
        have HW1 : Hid (Below w.heap.size w w1) := Lib.hid (HW.out.trans (hb1.mono HW.out.size))
        clear hb1 hW
        rcases chkB_code kind text with hc | hc
        · have HWB : Hid (writeB kind text = textB kind text) := Lib.hid (by unfold writeB; rw [if_pos hc])
          have HOK3 := Lib.hid (HOK2.out hc)
          have hz9 : (textB kind text).data.toList.length = (textB kind text).size := Array.length_toList
          have hz8 := HTL.out
          rw [hz9] at hz8
          clear hz9
          rw [hc, HWB.out]
          clear hc HWB HBAD HOK2
          have HJ9 : Hid (joinTo l (0 + 1) = joinTo l (0) ++ ([] ++ (textB kind text).data.toList)) := Lib.hid (by rw [HSEG.out, gapAt_zero, if_neg (by decide)])
          generalize textB kind text = T at HTL HJ9 hz8 ⊢
          by_cases h4 : t.size ≤ 40000
          · have l4 : decide ((t.size : Int) ≤ 40000) = true := decide_eq_true (by omega)
            have HJ1 := Lib.hid (HJ.out.more [] T.data.toList HJ9.out HTL.out (by simp) (t ++ T) (by rw [ByteArray.data_append, Array.toList_append]; rfl) (by simpa using h4))
            clear h4
            go_wp2
            all_goals first
              | (exfalso; omega; done)
              | skip
            go_roundw
            case rel => exact ⟨0 + 1, _, by omega, by go_num, rfl, HJ1, HW1, HOK3⟩
            case measure => simp [intOf]; omega
          · have l4 : decide ((t.size : Int) ≤ 40000) = false := decide_eq_false (by omega)
            have HJ1 := Lib.hid (HJ.out.stay [] T.data.toList HJ9.out (by simp) t (by simp) (by simp; omega))
            clear h4
            go_wp2
            all_goals first
              | (exfalso; omega; done)
              | skip
            go_roundw
            case rel => exact ⟨0 + 1, _, by omega, by go_num, rfl, HJ1, HW1, HOK3⟩
            case measure => simp [intOf]; omega
        · have HE : Hid (joinB l = (ByteArray.empty, 2)) := Lib.hid (HBAD.out (by rw [hc]; decide))
          rw [hc]
          clear hc HBAD HOK2 HTL HSEG HGAP
          generalize writeB kind text = T
          go_wp2_with fail
          go_ret2
          exact ⟨by rw [HE.out]; rfl, HW1.out⟩
      | succ m =>
        have wm : IntKind.i64.wrap ((m : Int) + 1 - 1) = m := (IntWalk.i64_in _ (by omega)).trans (by omega)
        have g0 : decide ((0 : Int) < (m : Int) + 1) = true := decide_eq_true (by omega)
        obtain ⟨p0, p1, p2⟩ := HC.out m (by omega)
        have hpv := HGAP.out m rfl
        have hml : m < l.length := by omega
        generalize l[m] = y at p0 p1 p2 hpv
        obtain ⟨ky, ty, ay⟩ := y
        dsimp only at p0 p1 p2 hpv
        have s0 := (HW.out.cell (p := ⟨g, off + m * 3, none⟩) hgl).trans p0
        have HPV := Lib.hid hpv
        clear p0 p1 p2 hpv
        go_wp2_with fail
        refine (rnear_any ky _).mono ?_
        rintro e w2 ⟨rfl, rfl⟩
        cases hA : gapK ky with
        | false =>
          have HG : Hid (gapAt l (m + 1) = false) := Lib.hid (HPV.out.trans (by rw [hA, Bool.and_false]))
          go_wp2_with fail
          refine (hW _).mono ?_
          rintro e w1 ⟨rfl, hb1⟩
          have HW1 : Hid (Below w.heap.size w w1) := Lib.hid (HW.out.trans (hb1.mono HW.out.size))
          clear hb1 hW
          rcases chkB_code kind text with hc | hc
          · have HWB : Hid (writeB kind text = textB kind text) := Lib.hid (by unfold writeB; rw [if_pos hc])
            have HOK3 := Lib.hid (HOK2.out hc)
            have hz9 : (textB kind text).data.toList.length = (textB kind text).size := Array.length_toList
            have hz8 := HTL.out
            rw [hz9] at hz8
            clear hz9
            rw [hc, HWB.out]
            clear hc HWB HBAD HOK2
            have HJ9 : Hid (joinTo l (m + 1 + 1) = joinTo l (m + 1) ++ ([] ++ (textB kind text).data.toList)) := Lib.hid (by rw [HSEG.out, HG.out, if_neg (by decide)])
            generalize textB kind text = T at HTL HJ9 hz8 ⊢
            by_cases h4 : t.size ≤ 40000
            · have l4 : decide ((t.size : Int) ≤ 40000) = true := decide_eq_true (by omega)
              have HJ1 := Lib.hid (HJ.out.more [] T.data.toList HJ9.out HTL.out (by simp) (t ++ T) (by rw [ByteArray.data_append, Array.toList_append]; rfl) (by simpa using h4))
              clear h4
              go_wp2
              all_goals first
                | (exfalso; omega; done)
                | skip
              go_roundw
              case rel => exact ⟨m + 1 + 1, _, by omega, by go_num, rfl, HJ1, HW1, HOK3⟩
              case measure => simp [intOf]; omega
            · have l4 : decide ((t.size : Int) ≤ 40000) = false := decide_eq_false (by omega)
              have HJ1 := Lib.hid (HJ.out.stay [] T.data.toList HJ9.out (by simp) t (by simp) (by simp; omega))
              clear h4
              go_wp2
              all_goals first
                | (exfalso; omega; done)
                | skip
              go_roundw
              case rel => exact ⟨m + 1 + 1, _, by omega, by go_num, rfl, HJ1, HW1, HOK3⟩
              case measure => simp [intOf]; omega
          · have HE : Hid (joinB l = (ByteArray.empty, 2)) := Lib.hid (HBAD.out (by rw [hc]; decide))
            rw [hc]
            clear hc HBAD HOK2 HTL HSEG HGAP
            generalize writeB kind text = T
            go_wp2_with fail
            go_ret2
            exact ⟨by rw [HE.out]; rfl, HW1.out⟩
        | true =>
          go_wp2_with fail
          refine (rnear_any kind _).mono ?_
          rintro e w3 ⟨rfl, rfl⟩
          cases hA2 : gapK kind with
          | false =>
            have HG : Hid (gapAt l (m + 1) = false) := Lib.hid (HPV.out.trans (by rw [hA2, Bool.false_and]))
            go_wp2_with fail
            refine (hW _).mono ?_
            rintro e w1 ⟨rfl, hb1⟩
            have HW1 : Hid (Below w.heap.size w w1) := Lib.hid (HW.out.trans (hb1.mono HW.out.size))
            clear hb1 hW
            rcases chkB_code kind text with hc | hc
            · have HWB : Hid (writeB kind text = textB kind text) := Lib.hid (by unfold writeB; rw [if_pos hc])
              have HOK3 := Lib.hid (HOK2.out hc)
              have hz9 : (textB kind text).data.toList.length = (textB kind text).size := Array.length_toList
              have hz8 := HTL.out
              rw [hz9] at hz8
              clear hz9
              rw [hc, HWB.out]
              clear hc HWB HBAD HOK2
              have HJ9 : Hid (joinTo l (m + 1 + 1) = joinTo l (m + 1) ++ ([] ++ (textB kind text).data.toList)) := Lib.hid (by rw [HSEG.out, HG.out, if_neg (by decide)])
              generalize textB kind text = T at HTL HJ9 hz8 ⊢
              by_cases h4 : t.size ≤ 40000
              · have l4 : decide ((t.size : Int) ≤ 40000) = true := decide_eq_true (by omega)
                have HJ1 := Lib.hid (HJ.out.more [] T.data.toList HJ9.out HTL.out (by simp) (t ++ T) (by rw [ByteArray.data_append, Array.toList_append]; rfl) (by simpa using h4))
                clear h4
                go_wp2
                all_goals first
                  | (exfalso; omega; done)
                  | skip
                go_roundw
                case rel => exact ⟨m + 1 + 1, _, by omega, by go_num, rfl, HJ1, HW1, HOK3⟩
                case measure => simp [intOf]; omega
              · have l4 : decide ((t.size : Int) ≤ 40000) = false := decide_eq_false (by omega)
                have HJ1 := Lib.hid (HJ.out.stay [] T.data.toList HJ9.out (by simp) t (by simp) (by simp; omega))
                clear h4
                go_wp2
                all_goals first
                  | (exfalso; omega; done)
                  | skip
                go_roundw
                case rel => exact ⟨m + 1 + 1, _, by omega, by go_num, rfl, HJ1, HW1, HOK3⟩
                case measure => simp [intOf]; omega
            · have HE : Hid (joinB l = (ByteArray.empty, 2)) := Lib.hid (HBAD.out (by rw [hc]; decide))
              rw [hc]
              clear hc HBAD HOK2 HTL HSEG HGAP
              generalize writeB kind text = T
              go_wp2_with fail
              go_ret2
              exact ⟨by rw [HE.out]; rfl, HW1.out⟩
          | true =>
            have HG : Hid (gapAt l (m + 1) = true) := Lib.hid (HPV.out.trans (by rw [hA, hA2]; rfl))
            go_wp2_with fail
            refine (hW _).mono ?_
            rintro e w1 ⟨rfl, hb1⟩
            have HW1 : Hid (Below w.heap.size w w1) := Lib.hid (HW.out.trans (hb1.mono HW.out.size))
            clear hb1 hW
            rcases chkB_code kind text with hc | hc
            · have HWB : Hid (writeB kind text = textB kind text) := Lib.hid (by unfold writeB; rw [if_pos hc])
              have HOK3 := Lib.hid (HOK2.out hc)
              have hz9 : (textB kind text).data.toList.length = (textB kind text).size := Array.length_toList
              have hz8 := HTL.out
              rw [hz9] at hz8
              clear hz9
              rw [hc, HWB.out]
              clear hc HWB HBAD HOK2
              have HJ9 : Hid (joinTo l (m + 1 + 1) = joinTo l (m + 1) ++ ([32] ++ (textB kind text).data.toList)) := Lib.hid (by rw [HSEG.out, HG.out, if_pos rfl])
              generalize textB kind text = T at HTL HJ9 hz8 ⊢
              by_cases h4 : t.size + 1 ≤ 40000
              · have l4 : decide ((t.size : Int) + 1 ≤ 40000) = true := decide_eq_true (by omega)
                have HJ1 := Lib.hid (HJ.out.more [32] T.data.toList HJ9.out HTL.out (by simp) ((t ++ ⟨#[32]⟩) ++ T) (by rw [ByteArray.data_append, Array.toList_append, ByteArray.data_append, Array.toList_append, List.append_assoc]) (by simpa using h4))
                clear h4
                go_wp2
                all_goals first
                  | (exfalso; omega; done)
                  | skip
                go_roundw
                case rel => exact ⟨m + 1 + 1, _, by omega, by go_num, rfl, HJ1, HW1, HOK3⟩
                case measure => simp [intOf]; omega
              · have l4 : decide ((t.size : Int) + 1 ≤ 40000) = false := decide_eq_false (by omega)
                have HJ1 := Lib.hid (HJ.out.stay [32] T.data.toList HJ9.out (by simp) (t ++ ⟨#[32]⟩) (by rw [ByteArray.data_append, Array.toList_append]) (by simp; omega))
                clear h4
                go_wp2
                all_goals first
                  | (exfalso; omega; done)
                  | skip
                go_roundw
                case rel => exact ⟨m + 1 + 1, _, by omega, by go_num, rfl, HJ1, HW1, HOK3⟩
                case measure => simp [intOf]; omega
            · have HE : Hid (joinB l = (ByteArray.empty, 2)) := Lib.hid (HBAD.out (by rw [hc]; decide))
              rw [hc]
              clear hc HBAD HOK2 HTL HSEG HGAP
              generalize writeB kind text = T
              go_wp2_with fail
              go_ret2
              exact ⟨by rw [HE.out]; rfl, HW1.out⟩
    · have l0 : decide ((k : Int) < (l.length : Int)) = false := decide_eq_false (by omega)
      obtain rfl : k = l.length := by omega
      have HJB : Hid (joinB l = if 40000 < (joinTo l l.length).length then (ByteArray.empty, 7) else (⟨(joinTo l l.length).toArray⟩, 0)) := Lib.hid (by
        unfold joinB; rw [bad_none (fun k h => HOK.out k h h)])
      have hz : t.data.toList.length = t.size := Array.length_toList
      by_cases h4 : 40000 < t.size
      · have l1 : decide ((40000 : Int) < (t.size : Int)) = true := decide_eq_true (by omega)
        have HJ2 : Hid (joinB l = (ByteArray.empty, 7)) := Lib.hid (by
          rw [HJB.out, if_pos]
          rcases HJ.out.is with q | q
          · rw [← q]; omega
          · exact q.2)
        clear h4 hz
        go_wp2_with fail
        go_ret2
        exact ⟨by rw [HJ2.out]; rfl, HW.out⟩
      · have l1 : decide ((40000 : Int) < (t.size : Int)) = false := decide_eq_false (by omega)
        have HJ2 : Hid (joinB l = (t, 0)) := Lib.hid (by
          rcases HJ.out.is with q | q
          · rw [HJB.out, if_neg (by rw [← q]; omega), ← q]
          · omega)
        clear h4 hz
        go_wp2_with fail
        go_ret2
        exact ⟨by rw [HJ2.out]; rfl, HW.out⟩
end Go.Proofs.YtmapaagdaojpaaaGreatDoor
