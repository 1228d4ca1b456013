/- The law TokenPlaces: its walk, over what awake says. -/
import Derived.Test.YtmapaagdaojpaaaDoorPfx
import Derived.Test.YtmapaagdaojpaaaDoorStrip
namespace Go.Proofs.YtmapaagdaojpaaaDoor
open Go.RowKit

theorem own_gen {B n : Nat} {vo : Value} {xs : List Value} {w : World} (h : w.ownsRow B 29 3 vo n xs) : ∃ a cap, vo = .slice a n cap ∧ (n ≠ 0 → ∃ g, a = some ⟨g, 0, none⟩ ∧ g < w.heap.size) := by
  rcases h.2 with ⟨hv, hz⟩ | ⟨g, cap, cur, hv, _, hh, hc, _⟩
  · exact ⟨none, 0, by rw [hv, hz], fun q => absurd hz q⟩
  · exact ⟨_, cap, hv, fun _ => ⟨g, rfl, (Array.getElem?_eq_some_iff.1 hh).1⟩⟩
theorem hasPrefix_at (s : ByteArray) {i fin : Nat} (h1 : i ≤ fin) (h2 : fin ≤ s.size) : Lib.hasPrefix (s.extract i s.size).data.toList (s.extract i fin).data.toList = true := by
  unfold Lib.hasPrefix
  rw [List.isPrefixOf_iff_prefix]
  have e : s.extract i s.size = s.extract i fin ++ s.extract fin s.size := by
    rw [ByteArray.extract_append_extract]
    congr 1 <;> omega
  rw [e, ByteArray.data_append, Array.toList_append]
  exact List.prefix_append _ _
/-- Equal at the tokens of two scans. -/
theorem Equal_any (l : List Tk) (a1 a2 : Option Addr) (c1 c2 : Nat) (w : World) (h1 : l.length ≠ 0 → ∃ g, a1 = some ⟨g, 0, none⟩ ∧ ToksAt g l w) (h2 : l.length ≠ 0 → ∃ g, a2 = some ⟨g, 0, none⟩ ∧ ToksAt g l w) (hl : l.length ≤ 1000000) :
    Calls Tryd.prog 8 #[.slice a1 l.length c1, .slice a2 l.length c2] w fun e w' => e = .returned (.bool true) ∧ ∃ d, w' = w.drewN d := by
  by_cases h0 : l.length = 0
  · rw [h0]
    exact (Equal_none a1 a2 c1 c2 w).mono fun e w' ⟨a, b⟩ => ⟨a, 0, b⟩
  · obtain ⟨g1, rfl, t1⟩ := h1 h0
    obtain ⟨g2, rfl, t2⟩ := h2 h0
    exact Equal_toks l g1 g2 c1 c2 w t1 t2 hl
theorem strip_byte (s : ByteArray) (sp : List (Nat × Nat)) (k : Nat) (h1 : k < s.size) (h2 : k < (stripB s sp).size) :
    (((s[k]'h1).toNat : Int) = 10 ∧ (((stripB s sp)[k]'h2).toNat : Int) = 10) ∨ (¬ ((s[k]'h1).toNat : Int) = 10 ∧ (((stripB s sp)[k]'h2).toNat : Int) = ((s[k]'h1).toNat : Int)) ∨ (¬ ((s[k]'h1).toNat : Int) = 10 ∧ (((stripB s sp)[k]'h2).toNat : Int) = 32) := by
  have e1 : bu (stripB s sp) k = (stripB s sp)[k]'h2 := by unfold bu; rw [dif_pos h2]
  have e2 : bu s k = s[k]'h1 := by unfold bu; rw [dif_pos h1]
  rw [← e1, ← e2, stripB_bu s sp k h1]
  by_cases h : bu s k = 10
  · refine .inl ⟨by rw [h]; rfl, ?_⟩
    rw [(blank_lf s sp k).2 h]; rfl
  · have hn : ¬ ((bu s k).toNat : Int) = 10 := fun q => h (UInt8.toNat_inj.1 (by show _ = 10; omega))
    unfold blank
    by_cases hi : inSp sp k = true
    · exact .inr (.inr ⟨hn, by rw [hi]; simp [h]⟩)
    · exact .inr (.inl ⟨hn, by simp at hi; rw [hi]; rfl⟩)
set_option maxHeartbeats 4000000 in
set_option maxRecDepth 100000 in
theorem TokenPlaces_any (s : ByteArray) (m : Int) (w : World) (hA : AwakeAt w) (hm : w.cell? ⟨1, 0, none⟩ = some (.int .i64 m)) (hE : ErrT w) :
    Calls Tryd.prog 4 #[.string s] w fun e w' => e = .returned (.bool true) ∧ Below w.heap.size w w' := by
  have hg : 1 < w.heap.size := World.block_lt_of_cell? w _ hm
  have hgE : 0 < w.heap.size := World.block_lt_of_cell? w _ hE
  by_cases hs : 3000 < s.size
  · have h0 : decide ((3000 : Int) < (s.size : Int)) = true := decide_eq_true (by omega)
    have hA0 := hA w (Below.refl _ _)
    clear hA hm hE
    go_enter Tryd.func4, Tryd.ntmps4
    go_wp2_with fail
    refine hA0.mono ?_
    rintro e w1 ⟨rfl, hb⟩
    go_wp2_with fail
    go_ret
    exact ⟨rfl, hb⟩
  have h0 : decide ((3000 : Int) < (s.size : Int)) = false := decide_eq_false (by omega)
  have hS := Scan_any s m w (by omega) hm hE
  have HM := Lib.hid hm
  have HE : Hid (ErrT w) := hE
  have HA : Hid (AwakeAt w) := hA
  clear hA hm hE
  generalize hR : scanN s = R at hS
  have HR := Lib.hid hR
  clear hR
  go_enter Tryd.func4, Tryd.ntmps4
  go_wp2_with fail
  refine hS.mono ?_
  clear hS
  intro e w1 hP
  cases R with
  | bad c x =>
    obtain ⟨hb1, rfl⟩ := hP
    have hA1 := HA.out w1 hb1
    have nc : (c != 0) = true := by simpa using scan_code HR.out
    go_wp2_with fail
    refine hA1.mono ?_
    rintro e w2 ⟨rfl, hb⟩
    go_wp2_with fail
    go_ret
    exact ⟨rfl, hb1.trans (hb.mono hb1.size)⟩
  | ok l sp =>
    obtain ⟨hb1, vo, rfl, hrow, hnil⟩ := hP
    obtain ⟨a, cap, rfl, ha⟩ := own_gen hrow
    have hcnt := scan_count HR.out
    have HT : Hid (l.length ≠ 0 → ∃ g, a = some ⟨g, 0, none⟩ ∧ g < w1.heap.size ∧ ToksAt g l w1) := Lib.hid fun q => by
      obtain ⟨g, rfl, hgl⟩ := ha q
      exact ⟨g, rfl, hgl, toksAt_own hrow⟩
    have HP : Hid ((∀ x ∈ l, AtB s x) ∧ l.Pairwise (fun a b => a.at_ < b.at_)) := Lib.hid (scan_places HR.out)
    have HB1 := Lib.hid hb1
    clear hrow hnil ha hb1
    go_wp2
    go_loopw [38, 6] (fun i la wr => ∃ (k : Nat) (La : Int), k ≤ l.length ∧ i = .int .i64 k ∧ la = .int .i64 La ∧ Hid (∀ h : k < l.length, La < (l[k]'h).at_) ∧ Hid (Below w1.heap.size w1 wr)) (fun i _ _ => l.length - (intOf i).toNat)
    case atStart => exact ⟨0, -1, Nat.zero_le _, rfl, rfl, Lib.hid fun _ => by omega, Below.refl _ _⟩
    case round =>
      obtain ⟨k, La, hk, rfl, rfl, HL, HB⟩ := hrel
      by_cases hlt : k < l.length
      · have l0 : decide ((k : Int) < (l.length : Int)) = true := decide_eq_true (by omega)
        obtain ⟨g, rfl, hgl, hT⟩ := HT.out (by omega)
        obtain ⟨q0, q1, q2⟩ := hT k hlt
        have r0 := (HB.out.cell (p := ⟨g, k * 3, none⟩) hgl).trans q0
        have r1 := (HB.out.cell (p := ⟨g, k * 3 + 1, none⟩) hgl).trans q1
        have r2 := (HB.out.cell (p := ⟨g, k * 3 + 2, none⟩) hgl).trans q2
        have hat := HP.out.1 _ (List.getElem_mem hlt)
        have hla := HL.out hlt
        have HN : Hid (∀ h : k + 1 < l.length, ((l[k]'hlt).at_ : Int) < (l[k + 1]'h).at_) := Lib.hid fun h => by
          have := List.pairwise_iff_getElem.1 HP.out.2 k (k + 1) hlt h (by omega)
          omega
        clear q0 q1 q2 hT
        generalize l[k] = x at r0 r1 r2 hat hla HN
        obtain ⟨kind, text, at_⟩ := x
        obtain ⟨h1, h2, h3, h4⟩ := hat
        dsimp only at r0 r1 r2 hla h1 h2 h3 h4
        have l1 : decide ((at_ : Int) ≤ La) = false := decide_eq_false (by omega)
        have l2 : decide ((s.size : Int) ≤ (at_ : Int)) = false := decide_eq_false (by omega)
        have l3 : decide (at_ < s.size) = true := decide_eq_true h1
        have l4 : decide ((at_ : Int) < (s.size : Int)) = true := decide_eq_true (by omega)
        have a1 : (0 : Int) ≤ at_ := by omega
        have a2 : (at_ : Int) ≤ s.size := by omega
        have hB := bt_in h1
        have wk : IntKind.i64.wrap ((k : Int) + 1) = k + 1 := IntWalk.i64_in _ (by omega)
        by_cases k1 : kind = 1
        · subst k1
          have hB2 : ((s[at_]'h1).toNat : Int) = 39 := hB.trans (h2 rfl)
          clear h2 h3 h4 hB hla
          go_wp2
          go_quiet (fail)
          go_wp2
          go_roundw
          case rel => exact ⟨k + 1, at_, by omega, by go_num, rfl, HN, HB.out.trans (below_drewN ((below_alloc1 wr _).mono HB.out.size) _)⟩
          case measure => simp [intOf]; omega
        · by_cases k2 : kind = 2
          · subst k2
            have hB2 : ((s[at_]'h1).toNat : Int) = 34 := hB.trans (h3 rfl)
            clear h2 h3 h4 hB hla k1
            go_wp2
            go_quiet (fail)
            go_wp2
            go_roundw
            case rel => exact ⟨k + 1, at_, by omega, by go_num, rfl, HN, HB.out.trans (below_drewN ((below_alloc1 wr _).mono HB.out.size) _)⟩
            case measure => simp [intOf]; omega
          · obtain ⟨fin, f1, f2, rfl⟩ := h4 k1 k2
            have hP0 := fun w => Tryd.strings_HasPrefix (s.extract at_ s.size) (s.extract at_ fin) w
            rw [hasPrefix_at s f1 f2] at hP0
            have n1 : (kind != 1) = true := by simpa using k1
            have n2 : (kind != 2) = true := by simpa using k2
            have n3 : (kind == 1) = false := by simpa using k1
            have n4 : (kind == 2) = false := by simpa using k2
            clear h2 h3 h4 hB hla k1 k2
            go_wp2
            go_quiet ((go_at_call 9; first | exact quiet_add hP0 | exact quiet_one hP0))
            go_wp2
            go_roundw
            case rel => exact ⟨k + 1, at_, by omega, by go_num, rfl, HN, HB.out.trans (below_drewN ((below_alloc1 wr _).mono HB.out.size) _)⟩
            case measure => simp [intOf]; omega
      · have l0 : decide ((k : Int) < (l.length : Int)) = false := decide_eq_false (by omega)
        obtain ⟨wo, rfl⟩ : ∃ wo : World, wo = wr := ⟨_, rfl⟩
        have hbw : Below w.heap.size w wo := HB1.out.trans (HB.out.mono HB1.out.size)
        have hS2 := Strip_any s m wo (by omega) ((hbw.cell (p := ⟨1, 0, none⟩) hg).trans HM.out) ((hbw.cell (p := ⟨0, 0, none⟩) hgE).trans HE.out)
        rw [HR.out] at hS2
        have HBW := Lib.hid hbw
        clear hbw
        go_wp2_with fail
        refine hS2.mono ?_
        clear hS2
        rintro e w2 ⟨hb2, rfl⟩
        have HB2 : Hid (Below wo.heap.size wo w2) := hb2
        have HBW2 : Hid (Below w.heap.size w w2) := HBW.out.trans (hb2.mono HBW.out.size)
        have hbyte := fun k h1 h2 => strip_byte s sp k h1 h2
        have hsize := stripB_size s sp
        have hsc := scan_strip HR.out
        generalize stripB s sp = T at hbyte hsize hsc
        have HBY := Lib.hid hbyte
        have HSC := Lib.hid hsc
        have HSZ := Lib.hid hsize
        have sz : (T.size : Int) = s.size := by omega
        clear hbyte hsc hb2
        go_wp2
        go_loopw [115] (fun i wr => ∃ (j : Nat), j ≤ s.size ∧ i = .int .i64 j ∧ Hid (Below w2.heap.size w2 wr)) (fun i _ => s.size - (intOf i).toNat)
        case atStart => exact ⟨0, Nat.zero_le _, rfl, Below.refl _ _⟩
        case round =>
          obtain ⟨j, hj, rfl, HB3⟩ := hrel
          by_cases hjl : j < s.size
          · have hj2 : j < T.size := by omega
            have l1 : decide ((j : Int) < (s.size : Int)) = true := decide_eq_true (by omega)
            have l2 : decide (j < s.size) = true := decide_eq_true hjl
            have l3 : decide (j < T.size) = true := decide_eq_true hj2
            have wj : IntKind.i64.wrap ((j : Int) + 1) = j + 1 := IntWalk.i64_in _ (by omega)
            rcases HBY.out j hjl hj2 with ⟨e1, e2⟩ | ⟨e1, e2⟩ | ⟨e1, e2⟩
            · go_wp2
              go_quiet (fail)
              go_wp2
              go_roundw
              case rel => exact ⟨j + 1, by omega, by go_num, below_drewN HB3.out _⟩
              case measure => simp [intOf]; omega
            · have n1 : (((s[j]'hjl).toNat : Int) == 10) = false := by simpa using e1
              go_wp2
              go_quiet (fail)
              go_wp2
              go_roundw
              case rel => exact ⟨j + 1, by omega, by go_num, below_drewN HB3.out _⟩
              case measure => simp [intOf]; omega
            · have n1 : (((s[j]'hjl).toNat : Int) == 10) = false := by simpa using e1
              by_cases e3 : ((s[j]'hjl).toNat : Int) = 32
              · go_wp2
                go_quiet (fail)
                go_wp2
                go_roundw
                case rel => exact ⟨j + 1, by omega, by go_num, below_drewN HB3.out _⟩
                case measure => simp [intOf]; omega
              · have n2 : ((32 : Int) != ((s[j]'hjl).toNat : Int)) = true := by rw [bne_iff_ne]; exact fun q => e3 q.symm
                have n3 : ((32 : Int) == ((s[j]'hjl).toNat : Int)) = false := by rw [beq_eq_false_iff_ne]; exact fun q => e3 q.symm
                go_wp2
                go_quiet (fail)
                go_wp2
                go_roundw
                case rel => exact ⟨j + 1, by omega, by go_num, below_drewN HB3.out _⟩
                case measure => simp [intOf]; omega
          · have l1 : decide ((j : Int) < (s.size : Int)) = false := decide_eq_false (by omega)
            have hb3 : Below w.heap.size w wr := HBW2.out.trans (HB3.out.mono HBW2.out.size)
            have hS3 := Scan_any T m wr (by omega) ((hb3.cell (p := ⟨1, 0, none⟩) hg).trans HM.out) ((hb3.cell (p := ⟨0, 0, none⟩) hgE).trans HE.out)
            rw [HSC.out] at hS3
            have HBW3 := Lib.hid hb3
            clear hb3
            go_wp2_with fail
            refine hS3.mono ?_
            clear hS3
            rintro e w3 ⟨hb4, vo2, rfl, hrow2, _⟩
            obtain ⟨a2, cap2, rfl, ha2⟩ := own_gen hrow2
            have HBW4 : Hid (Below w.heap.size w w3) := HBW3.out.trans (hb4.mono HBW3.out.size)
            have hS4 := Strip_any T m w3 (by omega) ((HBW4.out.cell (p := ⟨1, 0, none⟩) hg).trans HM.out) ((HBW4.out.cell (p := ⟨0, 0, none⟩) hgE).trans HE.out)
            rw [HSC.out] at hS4
            have HT2 : Hid (l.length ≠ 0 → ∃ g, a2 = some ⟨g, 0, none⟩ ∧ g < w3.heap.size ∧ ToksAt g l w3) := Lib.hid fun q => by
              obtain ⟨g, rfl, hgl⟩ := ha2 q
              exact ⟨g, rfl, hgl, toksAt_own hrow2⟩
            have HB4 := Lib.hid hb4
            clear hb4 ha2 hrow2
            go_wp2_with fail
            refine hS4.mono ?_
            clear hS4
            rintro e w4 ⟨hb5, rfl⟩
            have HBW5 : Hid (Below w.heap.size w w4) := HBW4.out.trans (hb5.mono HBW4.out.size)
            have h15 : Below w1.heap.size w1 w4 := (((HB.out.trans (HB2.out.mono HB.out.size)).trans (HB3.out.mono (Nat.le_trans HB.out.size HB2.out.size))).trans (HB4.out.mono (Nat.le_trans (Nat.le_trans HB.out.size HB2.out.size) HB3.out.size))).trans (hb5.mono (Nat.le_trans (Nat.le_trans (Nat.le_trans HB.out.size HB2.out.size) HB3.out.size) HB4.out.size))
            have hE2 := Equal_any l a a2 cap cap2 w4 (fun q => by
                obtain ⟨g, e1, e2, e3⟩ := HT.out q
                exact ⟨g, e1, toksAt_below e3 e2 h15⟩) (fun q => by
                obtain ⟨g, e1, e2, e3⟩ := HT2.out q
                exact ⟨g, e1, toksAt_below e3 e2 hb5⟩) (by omega)
            have hnil := stripB_nil T
            generalize stripB T [] = TT at hnil
            subst hnil
            clear hb5 h15
            go_wp2_with fail
            refine hE2.mono ?_
            rintro e w5 ⟨rfl, d, rfl⟩
            clear hE2
            have hb6 : Below w.heap.size w (w4.drewN d) := below_drewN HBW5.out _
            go_wp2_with fail
            refine (HA.out _ hb6).mono ?_
            rintro e w6 ⟨rfl, hb⟩
            go_wp2_with fail
            go_ret
            exact ⟨rfl, hb6.trans (hb.mono hb6.size)⟩
end Go.Proofs.YtmapaagdaojpaaaDoor
