/- The law TokenBack: its walk, over what awake says. -/
import Derived.Test.YtmapaagdaojpaaaGreatDoorAl
import Derived.Test.YtmapaagdaojpaaaGreatDoorBx
import Derived.Test.YtmapaagdaojpaaaGreatDoorAwx
import Derived.Test.YtmapaagdaojpaaaGreatDoorScan
namespace Go.Proofs.YtmapaagdaojpaaaGreatDoor
open Go.RowKit

def gapNo (gs : List UInt8) (i : Nat) : Nat := if gs.length = 0 then 0 else (gs.getD (i % gs.length) 0).toNat % 6
def gapFn (gs : List UInt8) (i : Nat) : List UInt8 := gapOf (gapNo gs i)
theorem gapFn_ok (gs : List UInt8) (i : Nat) : IsGap (gapFn gs i) ∧ gapFn gs i ≠ [] := by
  refine ⟨.inr ⟨_, rfl⟩, ?_⟩
  unfold gapFn
  generalize gapNo gs i = k
  match k with
  | 0 => decide
  | 1 => decide
  | 2 => decide
  | 3 => decide
  | 4 => decide
  | k + 5 => intro q; cases q
theorem gapNo_lt (gs : List UInt8) (i : Nat) : gapNo gs i < 6 := by
  unfold gapNo; split
  · omega
  · exact Nat.mod_lt _ (by omega)
/-- The six gaps, as the program holds them. -/
def gapRow : Array Value := #[.string ⟨#[32]⟩, .string ⟨#[10]⟩, .string ⟨#[9, 13]⟩, .string ⟨#[47, 42, 32, 39, 32, 42, 47]⟩, .string ⟨#[10, 42, 32, 34, 32, 36, 10]⟩, .string ⟨#[47, 42, 42, 47, 32]⟩]
theorem gapRow_at : ∀ k : Fin 6, gapRow[k.val]? = some (.string ⟨(gapOf k.val).toArray⟩) := by
  intro k
  match k with
  | 0 => rfl
  | 1 => rfl
  | 2 => rfl
  | 3 => rfl
  | 4 => rfl
  | 5 => rfl
theorem gapRow_is (k : Fin 6) (h : k.val < ([.string ⟨#[32]⟩, .string ⟨#[10]⟩, .string ⟨#[9, 13]⟩, .string ⟨#[47, 42, 32, 39, 32, 42, 47]⟩, .string ⟨#[10, 42, 32, 34, 32, 36, 10]⟩, .string ⟨#[47, 42, 42, 47, 32]⟩] : List Value).length) :
    ([.string ⟨#[32]⟩, .string ⟨#[10]⟩, .string ⟨#[9, 13]⟩, .string ⟨#[47, 42, 32, 39, 32, 42, 47]⟩, .string ⟨#[10, 42, 32, 34, 32, 36, 10]⟩, .string ⟨#[47, 42, 42, 47, 32]⟩] : List Value)[k.val]'h = .string ⟨(gapOf k.val).toArray⟩ := by
  match k with
  | 0 => rfl
  | 1 => rfl
  | 2 => rfl
  | 3 => rfl
  | 4 => rfl
  | 5 => rfl
theorem gapOf_len (k : Nat) : (gapOf k).length ≤ 7 := by
  match k with
  | 0 => decide
  | 1 => decide
  | 2 => decide
  | 3 => decide
  | 4 => decide
  | k + 5 => exact (by decide : 5 ≤ 7)
theorem out_le {l : List Ti} {g : Nat → List UInt8} (hg : ∀ i, (g i).length ≤ 7) {M : Nat} (hM : ∀ x ∈ l, x.text.size ≤ M) : ∀ k, k ≤ l.length → (outTo l g k).length ≤ k * (4 * M + 9)
  | 0, _ => by simp [outTo]
  | k + 1, hk => by
    rw [outTo_succ (by omega), List.length_append, List.length_append]
    have h1 := out_le hg hM k (by omega)
    have h2 := textB_len (l[k]'(by omega)).kind (l[k]'(by omega)).text
    have h3 := hM _ (List.getElem_mem (show k < l.length by omega))
    have h4 := hg k
    have h5 : (textB (l[k]'(by omega)).kind (l[k]'(by omega)).text).data.toList.length = (textB (l[k]'(by omega)).kind (l[k]'(by omega)).text).size := Array.length_toList
    rw [Nat.succ_mul]; omega
theorem ws_any (B b : Nat) (bs : List Value) (T g : ByteArray) (w U : World) (h : IsB B b bs w) (hb : Below w.heap.size w U) (hl : bs.length ≤ 3300000) (ht : T.size ≤ 8002) (hg : g.size ≤ 7) (hB : B ≤ w.heap.size) :
    Calls Tryz.prog 17 #[.pointer (some ⟨b, 0, none⟩), .string (T ++ g)] U fun e w' => e = .returned (.tuple #[.int .i64 (T ++ g).size, .nilIface]) ∧ UsedB B b (bs ++ Lib.strCells (T ++ g)) w' ∧ Below B w w' :=
  (WriteString_any B b bs (T ++ g) U (isB_low h hb) (by rw [ByteArray.size_append]; omega) (Nat.le_trans hB hb.size)).mono fun _ _ ⟨h1, h2, h3⟩ => ⟨h1, h2, (hb.mono hB).trans h3⟩
set_option maxHeartbeats 4000000 in
set_option maxRecDepth 100000 in
theorem TokenBack_any (l : List Ti) (ao : Option Addr) (cap : Nat) (gs : List UInt8) (go : Option Addr) (cap2 : Nat) (mx : Int) (w : World) (hrow : TiRow ao l w) (hgr : ByRow go gs w) (hA : AwakeAt w)
    (hm : w.cell? ⟨1, 0, none⟩ = some (.int .i64 mx)) (hE : ErrT w) :
    Calls Tryz.prog 4 #[.slice ao l.length cap, .slice go gs.length cap2] w fun e w' => e = .returned (.bool true) ∧ Below w.heap.size w w' := by
  have HA : Hid (AwakeAt w) := hA
  have HMX := Lib.hid hm
  have HET : Hid (ErrT w) := hE
  have hgM : 1 < w.heap.size := World.block_lt_of_cell? w _ hm
  have hgE : 0 < w.heap.size := World.block_lt_of_cell? w _ hE
  clear hA hm hE
  have hFw := few_any l ao cap w hrow
  have HR := Lib.hid hrow
  have HG := Lib.hid hgr
  generalize hgn : gs.length = gn
  have HGL := Lib.hid hgn
  clear hgn
  clear hrow hgr
  have hout := few_out (l := l)
  cases hf : fewB l with
  | false =>
    rw [hf] at hFw
    clear hout hf
    go_enter Tryz.func4, Tryz.ntmps4
    go_wp2_with fail
    refine hFw.mono ?_
    rintro e w1 ⟨rfl, hb⟩
    clear hFw
    go_wp2_with fail
    refine (HA.out _ hb).mono ?_
    rintro e w2 ⟨rfl, hb2⟩
    go_wp2_with fail
    go_ret
    exact ⟨rfl, hb.trans (hb2.mono hb.size)⟩
  | true =>
    rw [hf] at hFw
    obtain ⟨hll, hM⟩ := hout hf
    have HM := Lib.hid hM
    clear hout hf hM
    by_cases hgl : 400 < gn
    · have g0 : decide ((400 : Int) < (gn : Int)) = true := decide_eq_true (by omega)
      go_enter Tryz.func4, Tryz.ntmps4
      go_wp2_with fail
      refine hFw.mono ?_
      rintro e w1 ⟨rfl, hb⟩
      clear hFw
      go_wp2_with fail
      refine (HA.out _ hb).mono ?_
      rintro e w2 ⟨rfl, hb2⟩
      go_wp2_with fail
      go_ret
      exact ⟨rfl, hb.trans (hb2.mono hb.size)⟩
    have g0 : decide ((400 : Int) < (gn : Int)) = false := decide_eq_false (by omega)
    obtain ⟨s, c, hj⟩ : ∃ s c, joinB l = (s, c) := ⟨_, _, rfl⟩
    have hJ := fun W (hb : Below w.heap.size w W) => Join_any l ao cap W (HR.out.below hb) HM.out hll
    rw [hj] at hJ
    dsimp only at hJ
    have hback := scan_join (l := l) (s := s)
    rw [hj] at hback
    go_enter Tryz.func4, Tryz.ntmps4
    go_wp2_with fail
    refine hFw.mono ?_
    rintro e w1 ⟨rfl, hb1⟩
    have HB1 := Lib.hid hb1
    clear hFw hb1
    go_wp2_with fail
    refine (hJ _ HB1.out).mono ?_
    rintro e w2 ⟨rfl, hb2⟩
    have HB2 : Hid (Below w.heap.size w w2) := Lib.hid (HB1.out.trans (hb2.mono HB1.out.size))
    clear hb2 HB1 hJ hj
    by_cases hc : c = 0
    · subst hc
      obtain ⟨hs4, hok, m, sp, hsc, hme⟩ := hback rfl
      have HOK := Lib.hid hok
      have HME : Hid ((m.map toTi).map kindText = l.map kindText) := Lib.hid (by rw [List.map_map]; exact hme)
      have hS := Scan_any s mx w2 hs4 ((HB2.out.cell (p := ⟨1, 0, none⟩) hgM).trans HMX.out) ((HB2.out.cell (p := ⟨0, 0, none⟩) hgE).trans HET.out)
      rw [hsc] at hS
      clear hback hs4 hok hsc hme
      go_wp2_with fail
      refine hS.mono ?_
      clear hS
      intro e w3 hP
      obtain ⟨hb3, vo, rfl, hown, _⟩ := hP
      have HB3 : Hid (Below w.heap.size w w3) := Lib.hid (HB2.out.trans (hb3.mono HB2.out.size))
      clear hb3
      have hmm : (m.map toTi).length = m.length := List.length_map ..
      rw [tk_ti, ← hmm] at hown
      obtain ⟨bo, bcap, rfl, hrow3⟩ := tiRow_own hown
      have hAl := alike_any l (m.map toTi) ao bo cap bcap w3 (HR.out.below HB3.out) hrow3 HME.out hll
      generalize (m.map toTi).length = ml at hAl
      clear hown hrow3 HME hmm
      go_wp2_with fail
      refine hAl.mono ?_
      rintro e w4 ⟨rfl, hb4⟩
      have HB4 : Hid (Below w.heap.size w w4) := Lib.hid (HB3.out.trans (hb4.mono HB3.out.size))
      clear hb4 hAl HB3 HB2
      go_wp2
      go_loopw [50] (fun i wr => ∃ k : Nat, k ≤ l.length ∧ i = .int .i64 k ∧ Hid (IsB w4.heap.size w4.heap.size (Lib.byteCells (outTo l (gapFn gs) k)) wr) ∧ Hid (Below w4.heap.size w4 wr)) (fun i _ => l.length - (intOf i).toNat)
      case atStart => exact ⟨0, Nat.zero_le _, rfl, Lib.hid (.inl ⟨Nat.le_refl _, _, heap_alloc_new w4 _, ⟨rfl, .inl ⟨rfl, rfl⟩⟩, by simp [Value.ownBlock]⟩), Lib.hid (below_alloc1 _ _)⟩
      case round =>
        obtain ⟨k, hk, rfl, HB, HW⟩ := hrel
        have HBW : Hid (Below w.heap.size w wr) := Lib.hid (HB4.out.trans (HW.out.mono HB4.out.size))
        have HLEN : Hid (∀ k, k ≤ l.length → (outTo l (gapFn gs) k).length ≤ 3300000) := Lib.hid fun k hk => by
          have h1 := out_le (l := l) (g := gapFn gs) (fun i => gapOf_len _) HM.out k hk
          have h2 : k * (4 * 2000 + 9) ≤ 400 * 8009 := Nat.mul_le_mul (by omega) (by omega)
          omega
        by_cases hlt : k < l.length
        · have l0 : decide ((k : Int) < (l.length : Int)) = true := decide_eq_true (by omega)
          have wk : IntKind.i64.wrap ((k : Int) + 1) = k + 1 := IntWalk.i64_in _ (by omega)
          obtain ⟨g, off, rfl, hgl', hcells⟩ := HR.out (by intro q; subst q; simp at hlt)
          obtain ⟨q0, q1, q2⟩ := hcells k hlt
          have r0 := (HBW.out.cell (p := ⟨g, off + k * 3, none⟩) hgl').trans q0
          have r1 := (HBW.out.cell (p := ⟨g, off + k * 3 + 1, none⟩) hgl').trans q1
          have r2 := (HBW.out.cell (p := ⟨g, off + k * 3 + 2, none⟩) hgl').trans q2
          have hgw : g < wr.heap.size := Nat.lt_of_lt_of_le hgl' HBW.out.size
          clear q0 q1 q2 hcells
          have HX : Hid (l[k].text.size ≤ 2000) := Lib.hid (HM.out _ (List.getElem_mem hlt))
          have HC : Hid (chkB l[k].kind l[k].text = 0) := Lib.hid (HOK.out _ (List.getElem_mem hlt))
          have HSEG : Hid (outTo l (gapFn gs) (k + 1) = outTo l (gapFn gs) k ++ ((textB l[k].kind l[k].text).data.toList ++ gapFn gs k)) := Lib.hid (outTo_succ hlt)
          generalize l[k] = x at r0 r1 r2 HX HSEG HC
          obtain ⟨kind, text, at_⟩ := x
          dsimp only at r0 r1 r2 HX HSEG HC
          have hW := fun w => Write_any kind text at_ w (by have := HX.out; omega)
          have HTZ : Hid ((textB kind text).size ≤ 8002) := Lib.hid (by have := textB_len kind text; have := HX.out; omega)
          have hwb : writeB kind text = textB kind text := by unfold writeB; rw [if_pos HC.out]
          rw [HC.out, hwb] at hW
          clear hwb HC HX
          generalize textB kind text = T at hW HTZ HSEG
          go_wp2_with fail
          refine (hW _).mono ?_
          rintro e w5 ⟨rfl, hb5⟩
          have HB5 : Hid (IsB w4.heap.size w4.heap.size (Lib.byteCells (outTo l (gapFn gs) k)) w5) := Lib.hid (isB_low (isB_low HB.out (below_alloc1 wr _)) hb5)
          have HWr : Hid (Below wr.heap.size wr w5) := Lib.hid ((below_alloc1 wr (.cells #[.int .i64 kind, .string text, .int .i64 at_] 27)).trans (hb5.mono (by simp)))
          have HW5 : Hid (Below w4.heap.size w4 w5) := Lib.hid (HW.out.trans (HWr.out.mono HW.out.size))
          clear hb5 hW r0 r1 r2
          have htz := HTZ.out
          by_cases hg0 : gn = 0
          · have HGN : Hid (gapFn gs k = gapOf 0) := Lib.hid (by unfold gapFn gapNo; rw [if_pos (HGL.out.trans hg0)])
            have hgz : decide (0 < gn) = false := decide_eq_false (by omega)
            clear hg0
            have HCELLS : Hid (Lib.byteCells (outTo l (gapFn gs) k) ++ Lib.strCells (T ++ ⟨#[32]⟩) = Lib.byteCells (outTo l (gapFn gs) (k + 1))) := Lib.hid (by
              rw [HSEG.out, HGN.out]; simp [Lib.byteCells, Lib.strCells, gapOf])
            go_wp2_with (go_at_call 17; refine (ws_any w4.heap.size w4.heap.size (Lib.byteCells (outTo l (gapFn gs) k)) T ⟨#[32]⟩ w5 _ HB5.out (below_alloc1 w5 _) (by rw [Lib.byteCells_length]; exact HLEN.out k hk) HTZ.out (by decide) HW5.out.size).mono ?_; rintro e w6 ⟨rfl, hU, hb6⟩; have HU : Hid (IsB w4.heap.size w4.heap.size (Lib.byteCells (outTo l (gapFn gs) (k + 1))) w6) := Lib.hid (by rw [← HCELLS.out]; exact Or.inr hU); have HB6 : Hid (Below w4.heap.size w4 w6) := Lib.hid (HW5.out.trans hb6); clear hU hb6)
            all_goals first
              | (exfalso; omega; done)
              | skip
            go_roundw
            case rel => exact ⟨k + 1, by omega, by go_num, HU, HB6⟩
            case measure => simp [intOf]; omega
          · obtain ⟨q, hq, hqm⟩ : ∃ q, q < gn ∧ k % gn = q := ⟨_, Nat.mod_lt _ (by omega), rfl⟩
            have hq' : q < gs.length := by have := HGL.out; omega
            obtain ⟨gg, goff, rfl, hggl, hgc⟩ := HG.out (by intro e; rw [e] at hq'; simp at hq')
            have HGN : Hid (gapFn gs k = gapOf (gs[q].toNat % 6)) := Lib.hid (by
              unfold gapFn gapNo
              rw [HGL.out, if_neg hg0, hqm, List.getD_eq_getElem?_getD, List.getElem?_eq_getElem hq']; rfl)
            have hBW5 : Below w.heap.size w w5 := HBW.out.trans (HWr.out.mono HBW.out.size)
            have cg := (hBW5.cell (p := ⟨gg, goff + q, none⟩) hggl).trans (hgc q hq')
            have hggw : gg < w5.heap.size := Nat.lt_of_lt_of_le hggl hBW5.size
            clear hgc hBW5
            have hbl := gs[q].toNat_lt
            have g1 : decide ((0 : Int) < (gn : Int)) = true := decide_eq_true (by omega)
            have t1 : Int.tmod (k : Int) (gn : Int) = (q : Int) := by rw [← hqm]; exact Int.ofNat_tmod _ _
            have t2 : IntKind.i64.wrap (q : Int) = q := IntWalk.i64_in _ (by omega)
            have t4 : ((gn : Int) == 0) = false := by simpa using hg0
            generalize gs[q].toNat = B at cg HGN hbl
            have t5 : Int.tmod (B : Int) 6 = ((B % 6 : Nat) : Int) := Int.ofNat_tmod _ _
            obtain ⟨gi, hgi, hgm⟩ : ∃ gi, gi < 6 ∧ B % 6 = gi := ⟨_, Nat.mod_lt _ (by omega), rfl⟩
            rw [hgm] at t5 HGN
            have t6 : IntKind.i64.wrap (gi : Int) = gi := IntWalk.i64_in _ (by omega)
            have t7 : IntKind.i64.wrap (B : Int) = B := IntWalk.i64_in _ (by omega)
            have c1 : (0 : Int) ≤ q := by omega
            have c2 : (q : Int) < gn := by omega
            have c3 : (0 : Int) ≤ gi := by omega
            have c4 : (gi : Int) < 6 := by omega
            have hg6 : ∀ h, ([.string ⟨#[32]⟩, .string ⟨#[10]⟩, .string ⟨#[9, 13]⟩, .string ⟨#[47, 42, 32, 39, 32, 42, 47]⟩, .string ⟨#[10, 42, 32, 34, 32, 36, 10]⟩, .string ⟨#[47, 42, 42, 47, 32]⟩] : List Value)[gi]'h = .string ⟨(gapOf gi).toArray⟩ := fun h => gapRow_is ⟨gi, hgi⟩ h
            have hg7 : (⟨(gapOf gi).toArray⟩ : ByteArray).size ≤ 7 := by rw [show (⟨(gapOf gi).toArray⟩ : ByteArray).size = (gapOf gi).length from List.size_toArray ..]; exact gapOf_len gi
            clear hg0 hqm hgm hbl hq'
            have HCELLS : Hid (Lib.byteCells (outTo l (gapFn gs) k) ++ Lib.strCells (T ++ ⟨(gapOf gi).toArray⟩) = Lib.byteCells (outTo l (gapFn gs) (k + 1))) := Lib.hid (by
              rw [HSEG.out, HGN.out]; simp [Lib.byteCells, Lib.strCells])
            go_wp2_with (go_at_call 17; refine (ws_any w4.heap.size w4.heap.size (Lib.byteCells (outTo l (gapFn gs) k)) T ⟨(gapOf gi).toArray⟩ w5 _ HB5.out (below_alloc1 w5 _) (by rw [Lib.byteCells_length]; exact HLEN.out k hk) HTZ.out hg7 HW5.out.size).mono ?_; rintro e w6 ⟨rfl, hU, hb6⟩; have HU : Hid (IsB w4.heap.size w4.heap.size (Lib.byteCells (outTo l (gapFn gs) (k + 1))) w6) := Lib.hid (by rw [← HCELLS.out]; exact Or.inr hU); have HB6 : Hid (Below w4.heap.size w4 w6) := Lib.hid (HW5.out.trans hb6); clear hU hb6)
            all_goals first
              | (exfalso; omega; done)
              | skip
            go_roundw
            case rel => exact ⟨k + 1, by omega, by go_num, HU, HB6⟩
            case measure => simp [intOf]; omega
        · have l0 : decide ((k : Int) < (l.length : Int)) = false := decide_eq_false (by omega)
          obtain rfl : k = l.length := by omega
          have hL := Tryz.Builder_Len w4.heap.size w4.heap.size _ wr HB.out
          rw [Lib.byteCells_length] at hL
          by_cases h4 : 40000 < (outTo l (gapFn gs) l.length).length
          · have l1 : decide ((40000 : Int) < ((outTo l (gapFn gs) l.length).length : Int)) = true := decide_eq_true (by omega)
            clear h4
            go_wp2_with fail
            refine hL.mono ?_
            rintro e w5 ⟨rfl, rfl⟩
            clear hL
            go_wp2_with fail
            refine (HA.out _ HBW.out).mono ?_
            rintro e w6 ⟨rfl, hb6⟩
            go_wp2_with fail
            go_ret
            exact ⟨rfl, HBW.out.trans (hb6.mono HBW.out.size)⟩
          · have l1 : decide ((40000 : Int) < ((outTo l (gapFn gs) l.length).length : Int)) = false := decide_eq_false (by omega)
            have hz : (⟨(outTo l (gapFn gs) l.length).toArray⟩ : ByteArray).size = (outTo l (gapFn gs) l.length).length := List.size_toArray ..
            obtain ⟨m2, sp2, hsc2, hme2⟩ := scan_out (l := l) (g := gapFn gs) (s := ⟨(outTo l (gapFn gs) l.length).toArray⟩) (by omega) HOK.out (gapFn_ok gs) rfl
            have hSt := Tryz.Builder_String_any w4.heap.size w4.heap.size (outTo l (gapFn gs) l.length) wr HB.out HW.out.size
            have hS2 := fun W (hb : Below w.heap.size w W) => Scan_any ⟨(outTo l (gapFn gs) l.length).toArray⟩ mx W (by omega) ((hb.cell (p := ⟨1, 0, none⟩) hgM).trans HMX.out) ((hb.cell (p := ⟨0, 0, none⟩) hgE).trans HET.out)
            rw [hsc2] at hS2
            have HME2 : Hid ((m2.map toTi).map kindText = l.map kindText) := Lib.hid (by rw [List.map_map]; exact hme2)
            clear h4 hz hsc2 hme2
            generalize (⟨(outTo l (gapFn gs) l.length).toArray⟩ : ByteArray) = out at hSt hS2
            go_wp2_with fail
            refine hL.mono ?_
            rintro e w5 ⟨rfl, rfl⟩
            clear hL
            go_wp2_with fail
            refine hSt.mono ?_
            rintro e w6 ⟨rfl, hb6⟩
            have HB6 : Hid (Below w.heap.size w w6) := Lib.hid (HBW.out.trans (hb6.mono HB4.out.size))
            clear hb6 hSt
            go_wp2_with fail
            refine (hS2 _ HB6.out).mono ?_
            clear hS2
            intro e w7 hP
            obtain ⟨hb7, vo, rfl, hown, _⟩ := hP
            have HB7 : Hid (Below w.heap.size w w7) := Lib.hid (HB6.out.trans (hb7.mono HB6.out.size))
            clear hb7
            have hmm : (m2.map toTi).length = m2.length := List.length_map ..
            rw [tk_ti, ← hmm] at hown
            obtain ⟨bo2, bcap2, rfl, hrow3⟩ := tiRow_own hown
            have hAl := alike_any l (m2.map toTi) ao bo2 cap bcap2 w7 (HR.out.below HB7.out) hrow3 HME2.out hll
            generalize (m2.map toTi).length = ml2 at hAl
            clear hown hrow3 HME2 hmm
            go_wp2_with fail
            refine hAl.mono ?_
            rintro e w8 ⟨rfl, hb8⟩
            have HB8 : Hid (Below w.heap.size w w8) := Lib.hid (HB7.out.trans (hb8.mono HB7.out.size))
            clear hb8 hAl
            go_wp2_with fail
            refine (HA.out _ HB8.out).mono ?_
            rintro e w9 ⟨rfl, hb9⟩
            go_wp2_with fail
            go_ret
            exact ⟨rfl, HB8.out.trans (hb9.mono HB8.out.size)⟩
    · have hc2 : (c != 0) = true := by simpa using hc
      clear hback hc
      go_wp2_with fail
      refine (HA.out _ HB2.out).mono ?_
      rintro e w3 ⟨rfl, hb3⟩
      go_wp2_with fail
      go_ret
      exact ⟨rfl, HB2.out.trans (hb3.mono HB2.out.size)⟩
end Go.Proofs.YtmapaagdaojpaaaGreatDoor
