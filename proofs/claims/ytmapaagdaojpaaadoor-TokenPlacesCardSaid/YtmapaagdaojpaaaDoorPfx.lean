/- The law TokenPrefix: its walk, over what awake says. -/
import Derived.Test.YtmapaagdaojpaaaDoorLines
import Derived.Test.YtmapaagdaojpaaaDoorAwk
import Derived.Test.YtmapaagdaojpaaaDoorPf
namespace Go.Proofs.YtmapaagdaojpaaaDoor
open Go.RowKit

set_option maxHeartbeats 400000 in
set_option maxRecDepth 100000 in
theorem Equal_none (a1 a2 : Option Addr) (c1 c2 : Nat) (w : World) :
    Calls Tryd.prog 8 #[.slice a1 0 c1, .slice a2 0 c2] w fun e w' => e = .returned (.bool true) ∧ w' = w := by
  go_enter Tryd.func8, Tryd.ntmps8
  go_wp2
  go_loopw [13] (fun i wr => i = .int .i64 0 ∧ wr = w) (fun _ _ => 0)
  case atStart => exact ⟨rfl, rfl⟩
  case round =>
    obtain ⟨rfl, rfl⟩ := hrel
    go_wp2
    go_ret
    exact ⟨rfl, rfl⟩
/-- A list of tokens lies in block g. -/
def ToksAt (g : Nat) (l : List Tk) (w : World) : Prop := ∀ k (h : k < l.length), w.cell? ⟨g, k * 3, none⟩ = some (.int .i64 l[k].kind) ∧ w.cell? ⟨g, k * 3 + 1, none⟩ = some (.string l[k].text) ∧ w.cell? ⟨g, k * 3 + 2, none⟩ = some (.int .i64 l[k].at_)
set_option maxHeartbeats 1000000 in
set_option maxRecDepth 100000 in
theorem Equal_toks (l : List Tk) (g1 g2 c1 c2 : Nat) (w : World) (h1 : ToksAt g1 l w) (h2 : ToksAt g2 l w) (hl : l.length ≤ 1000000) :
    Calls Tryd.prog 8 #[.slice (some ⟨g1, 0, none⟩) l.length c1, .slice (some ⟨g2, 0, none⟩) l.length c2] w fun e w' => e = .returned (.bool true) ∧ ∃ d, w' = w.drewN d := by
  have H1 : Hid (ToksAt g1 l w) := h1
  have H2 : Hid (ToksAt g2 l w) := h2
  clear h1 h2
  go_enter Tryd.func8, Tryd.ntmps8
  go_wp2
  go_loopw [13] (fun i wr => ∃ k : Nat, k ≤ l.length ∧ i = .int .i64 k ∧ Hid (∃ d, wr = w.drewN d)) (fun i _ => l.length - (intOf i).toNat)
  case atStart => exact ⟨0, Nat.zero_le _, rfl, ⟨0, rfl⟩⟩
  case round =>
    obtain ⟨k, hk, rfl, hQ⟩ := hrel
    by_cases hlt : k < l.length
    · have l0 : decide ((k : Int) < (l.length : Int)) = true := decide_eq_true (by omega)
      obtain ⟨p0, p1, p2⟩ : wr.cell? ⟨g1, k * 3, none⟩ = some (.int .i64 l[k].kind) ∧ wr.cell? ⟨g1, k * 3 + 1, none⟩ = some (.string l[k].text) ∧ wr.cell? ⟨g1, k * 3 + 2, none⟩ = some (.int .i64 l[k].at_) := by
        obtain ⟨d, rfl⟩ := hQ.out; exact H1.out k hlt
      obtain ⟨q0, q1, q2⟩ : wr.cell? ⟨g2, k * 3, none⟩ = some (.int .i64 l[k].kind) ∧ wr.cell? ⟨g2, k * 3 + 1, none⟩ = some (.string l[k].text) ∧ wr.cell? ⟨g2, k * 3 + 2, none⟩ = some (.int .i64 l[k].at_) := by
        obtain ⟨d, rfl⟩ := hQ.out; exact H2.out k hlt
      generalize l[k] = x at p0 p1 p2 q0 q1 q2
      obtain ⟨kind, text, at_⟩ := x
      dsimp only at p0 p1 p2 q0 q1 q2
      go_wp2
      go_quiet (fail)
      go_wp2
      go_roundw
      case rel => exact ⟨k + 1, by omega, by go_num, hq_step hQ⟩
      case measure => simp [intOf]; omega
    · have l0 : decide ((k : Int) < (l.length : Int)) = false := decide_eq_false (by omega)
      go_wp2
      go_ret
      exact ⟨rfl, hQ.out⟩
theorem toksAt_own {B g cap : Nat} {l : List Tk} {w : World} (h : w.ownsRow B 29 3 (.slice (some ⟨g, 0, none⟩) l.length cap) l.length (tkCells l)) : ToksAt g l w := fun k hk => by
  obtain ⟨a, b, c⟩ := tk_at l k hk
  exact ⟨(h.cellAt _ (by omega)).trans a, (h.cellAt _ (by omega)).trans b, (h.cellAt _ (by omega)).trans c⟩
theorem toksAt_take {g : Nat} {l : List Tk} {w : World} (h : ToksAt g l w) (n : Nat) : ToksAt g (l.take n) w := fun k hk => by
  have hk2 : k < l.length := by rw [List.length_take] at hk; omega
  rw [List.getElem_take]
  exact h k hk2
theorem toksAt_below {g : Nat} {l : List Tk} {w w' : World} (h : ToksAt g l w) (hg : g < w.heap.size) (hb : Below w.heap.size w w') : ToksAt g l w' := fun k hk => by
  obtain ⟨a, b, c⟩ := h k hk
  exact ⟨(hb.cell (p := ⟨g, k * 3, none⟩) hg).trans a, (hb.cell (p := ⟨g, k * 3 + 1, none⟩) hg).trans b, (hb.cell (p := ⟨g, k * 3 + 2, none⟩) hg).trans c⟩
theorem own_shape {B n : Nat} {vo : Value} {xs : List Value} {w : World} (h : w.ownsRow B 29 3 vo n xs) (h0 : n ≠ 0) : ∃ g cap, vo = .slice (some ⟨g, 0, none⟩) n cap ∧ g < w.heap.size ∧ n ≤ cap := by
  rcases h.2 with ⟨_, hz⟩ | ⟨g, cap, cur, hv, _, hh, hc, _⟩
  · exact absurd hz h0
  · exact ⟨g, cap, hv, (Array.getElem?_eq_some_iff.1 hh).1, hc⟩
theorem toks_count (s : ByteArray) : ∀ (n i : Nat) (sp : List (Nat × Nat)) (acc l : List Tk) (sp' : List (Nat × Nat)), i ≤ s.size → acc.length ≤ i → toksN s n i sp acc = .ok l sp' → l.length ≤ s.size
  | 0, i, sp, acc, l, sp', hi, ha, h => by simp only [toksN, ScanR.ok.injEq] at h; rw [← h.1]; omega
  | n + 1, i, sp, acc, l, sp', hi, ha, h => by
    unfold toksN at h
    split at h
    · cases h
    · rename_i j sp1 hs
      have hj := skip_le s _ _ _ _ _ hi hs
      split at h
      · cases h; omega
      · split at h
        · cases h
        · rename_i kind text fin ht
          have hf := tok_lt (by omega) ht
          exact toks_count s n _ _ _ _ _ hf.2 (by simp; omega) h
theorem scan_count {s : ByteArray} {l : List Tk} {sp : List (Nat × Nat)} (h : scanN s = .ok l sp) : l.length ≤ s.size := by
  unfold scanN at h
  split at h
  · cases h
  · exact toks_count s _ _ _ _ _ _ (Nat.zero_le _) (Nat.le_refl _) h
set_option maxHeartbeats 2000000 in
set_option maxRecDepth 100000 in
theorem TokenPrefix_any (s : ByteArray) (kk : Nat) (m : Int) (w : World) (hk : kk ≤ 65535) (hA : AwakeAt w) (hm : w.cell? ⟨1, 0, none⟩ = some (.int .i64 m)) (hE : ErrT w) :
    Calls Tryd.prog 3 #[.string s, .int .u16 kk] w fun e w' => e = .returned (.bool true) ∧ Below w.heap.size w w' := by
  have hg : 1 < w.heap.size := World.block_lt_of_cell? w _ hm
  have hgE : 0 < w.heap.size := World.block_lt_of_cell? w _ hE
  by_cases hs : 3000 < s.size
  · have h0 : decide ((3000 : Int) < (s.size : Int)) = true := decide_eq_true (by omega)
    have hA0 := hA w (Below.refl _ _)
    clear hA hm hE
    go_enter Tryd.func3, Tryd.ntmps3
    go_wp2_with fail
    refine hA0.mono ?_
    rintro e w1 ⟨rfl, hb⟩
    go_wp2_with fail
    go_ret
    exact ⟨rfl, hb⟩
  have h0 : decide ((3000 : Int) < (s.size : Int)) = false := decide_eq_false (by omega)
  have hS := Scan_any s m w (by omega) hm hE
  have HM := Lib.hid hm
  have HE : Hid (ErrT w) := hE
  have HA : Hid (AwakeAt w) := hA
  clear hA hm hE
  generalize hR : scanN s = R at hS
  have HR := Lib.hid hR
  clear hR
  go_enter Tryd.func3, Tryd.ntmps3
  go_wp2_with fail
  refine hS.mono ?_
  clear hS
  intro e w1 hP
  cases R with
  | bad c x =>
    obtain ⟨hb1, rfl⟩ := hP
    have hA1 := HA.out w1 hb1
    by_cases hc : c = 0
    · subst hc
      go_wp2_with fail
      refine hA1.mono ?_
      rintro e w2 ⟨rfl, hb⟩
      go_wp2_with fail
      go_ret
      exact ⟨rfl, hb1.trans (hb.mono hb1.size)⟩
    · have nc : (c != 0) = true := by simpa using hc
      clear hc
      go_wp2_with fail
      refine hA1.mono ?_
      rintro e w2 ⟨rfl, hb⟩
      go_wp2_with fail
      go_ret
      exact ⟨rfl, hb1.trans (hb.mono hb1.size)⟩
  | ok l sp =>
    obtain ⟨hb1, vo, rfl, hrow, hnil⟩ := hP
    by_cases hl0 : l = []
    · subst hl0
      obtain rfl := hnil.2 rfl
      have hA1 := HA.out w1 hb1
      clear hrow hnil
      go_wp2_with fail
      refine hA1.mono ?_
      rintro e w2 ⟨rfl, hb⟩
      go_wp2_with fail
      go_ret
      exact ⟨rfl, hb1.trans (hb.mono hb1.size)⟩
    · have hn0 : l.length ≠ 0 := fun q => hl0 (List.length_eq_zero_iff.1 q)
      obtain ⟨g, cap, rfl, hgl, hcap⟩ := own_shape hrow hn0
      have hcnt := scan_count HR.out
      have hT := toksAt_own hrow
      clear hrow hnil hl0
      obtain ⟨q, hq, hqm⟩ : ∃ q, q < l.length ∧ kk % l.length = q := ⟨_, Nat.mod_lt _ (Nat.pos_of_ne_zero hn0), rfl⟩
      have r1 : Int.tmod (kk : Int) (l.length : Int) = (q : Int) := by rw [← hqm]; exact Int.ofNat_tmod _ _
      have r2 : IntKind.i64.wrap (q : Int) = q := IntWalk.i64_in _ (by omega)
      have r3 : IntKind.i64.wrap (kk : Int) = kk := IntWalk.i64_in _ (by omega)
      have r4 : ((l.length : Int) == 0) = false := by simpa using hn0
      obtain ⟨t0, t1, t2⟩ := hT q hq
      obtain ⟨hat, sp', hpre⟩ := scan_prefix HR.out hq
      have hT1 : ToksAt g (l.take q) w1 := toksAt_take hT q
      have hlq : (l.take q).length = q := by rw [List.length_take]; omega
      generalize l[q].at_ = at_ at t2 hat hpre
      have a1 : (0 : Int) ≤ at_ := by omega
      have a2 : (at_ : Int) ≤ s.size := by omega
      clear t0 t1
      have hS2 := Scan_any (s.extract 0 at_) m w1 (by rw [ByteArray.size_extract]; omega) ((hb1.cell (p := ⟨1, 0, none⟩) hg).trans HM.out) ((hb1.cell (p := ⟨0, 0, none⟩) hgE).trans HE.out)
      rw [hpre] at hS2
      have HT1 := Lib.hid hT1
      clear hpre hT hT1
      go_wp2_with fail
      refine hS2.mono ?_
      clear hS2
      rintro e w2 ⟨hb2, vo2, rfl, hrow2, hnil2⟩
      have hb2' : Below w.heap.size w w2 := hb1.trans (hb2.mono hb1.size)
      have hT2 := toksAt_below HT1.out hgl hb2
      have c1 : (q : Int) ≤ cap := by omega
      have c2 : (0 : Int) ≤ q := by omega
      by_cases hq0 : q = 0
      · subst hq0
        obtain rfl := hnil2.2 rfl
        clear hrow2 hnil2
        go_wp2_with fail
        refine (Equal_none _ _ _ _ w2).mono ?_
        rintro e w3 ⟨rfl, rfl⟩
        go_wp2_with fail
        refine (HA.out w3 hb2').mono ?_
        rintro e w4 ⟨rfl, hb⟩
        go_wp2_with fail
        go_ret
        exact ⟨rfl, hb2'.trans (hb.mono hb2'.size)⟩
      · obtain ⟨g2, cap2, rfl, hg2, _⟩ := own_shape hrow2 (by rw [hlq]; exact hq0)
        have hE2 := Equal_toks (l.take q) g2 g cap2 cap w2 (toksAt_own hrow2) hT2 (by rw [hlq]; omega)
        rw [hlq] at hE2 ⊢
        clear hrow2 hnil2
        go_wp2_with fail
        refine hE2.mono ?_
        rintro e w3 ⟨rfl, d, rfl⟩
        clear hE2
        have hb3 : Below w.heap.size w (w2.drewN d) := below_drewN hb2' _
        go_wp2_with fail
        refine (HA.out _ hb3).mono ?_
        rintro e w4 ⟨rfl, hb⟩
        go_wp2_with fail
        go_ret
        exact ⟨rfl, hb3.trans (hb.mono hb3.size)⟩
end Go.Proofs.YtmapaagdaojpaaaDoor
