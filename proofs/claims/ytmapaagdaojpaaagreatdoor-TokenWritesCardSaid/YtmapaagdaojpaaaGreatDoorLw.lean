/- The law TokenWrites: its walk, over what awake says. -/
import Derived.Test.YtmapaagdaojpaaaGreatDoorRj
import Derived.Test.YtmapaagdaojpaaaGreatDoorFw
import Derived.Test.YtmapaagdaojpaaaGreatDoorAwx
namespace Go.Proofs.YtmapaagdaojpaaaGreatDoor
open Go.RowKit

theorem info_rtok : (Tryz.prog.info? 32).map (fun i => (i.zero, i.size, i.bytes)) = some (some (.agg #[.int .i64 0, .string ⟨#[]⟩, .int .i64 0]), 3, 32) := by kernel_rfl
theorem tiCells_take {l : List Ti} {k : Nat} (h : k < l.length) : tiCells (l.take (k + 1)) = tiCells (l.take k) ++ [.int .i64 l[k].kind, .string l[k].text, .int .i64 l[k].at_] := by
  unfold tiCells
  rw [← List.take_append_getElem h, List.flatMap_append]
  simp
set_option maxHeartbeats 4000000 in
set_option maxRecDepth 100000 in
theorem TokenWrites_any (l : List Ti) (ao : Option Addr) (cap : Nat) (w : World) (hrow : TiRow ao l w) (hA : AwakeAt w) :
    Calls Tryz.prog 3 #[.slice ao l.length cap] w fun e w' => e = .returned (.bool true) ∧ Below w.heap.size w w' := by
  have HA : Hid (AwakeAt w) := hA
  clear hA
  have hFw := few_any l ao cap w hrow
  have HR := Lib.hid hrow
  clear hrow
  have hout := few_out (l := l)
  cases hf : fewB l with
  | false =>
    rw [hf] at hFw
    clear hout hf
    go_enter Tryz.func3, Tryz.ntmps3
    go_wp2_with fail
    refine hFw.mono ?_
    rintro e w1 ⟨rfl, hb⟩
    clear hFw
    go_wp2_with fail
    refine (HA.out _ hb).mono ?_
    rintro e w2 ⟨rfl, hb2⟩
    go_wp2_with fail
    go_ret
    exact ⟨rfl, hb.trans (hb2.mono hb.size)⟩
  | true =>
    rw [hf] at hFw
    obtain ⟨hll, hM⟩ := hout hf
    have HM := Lib.hid hM
    clear hout hf hM
    obtain ⟨i0, hi0, hz0, hz1, hz2⟩ := info_parts info_rtok
    go_enter Tryz.func3, Tryz.ntmps3
    go_wp2_with fail
    refine hFw.mono ?_
    rintro e w0 ⟨rfl, hb0⟩
    have HB0 := Lib.hid hb0
    clear hFw hb0
    go_wp2
    go_loopw [20, 3] (fun i v3 wr => ∃ (k : Nat) (vm : Value), k ≤ l.length ∧ i = .int .i64 k ∧ vm = v3 ∧ Hid (wr.ownsRow w.heap.size 32 3 vm k (tiCells (l.take k))) ∧ Hid (Below w.heap.size w wr)) (fun i _ _ => l.length - (intOf i).toNat)
    case atStart => exact ⟨0, _, Nat.zero_le _, rfl, rfl, Lib.hid (by rw [List.take_zero]; exact World.ownsRow_nil _ _ _ _), HB0⟩
    case round =>
      obtain ⟨k, vm, hk, rfl, rfl, HO, HW⟩ := hrel
      have hwsz := HW.out.size
      by_cases hlt : k < l.length
      · have l0 : decide ((k : Int) < (l.length : Int)) = true := decide_eq_true (by omega)
        have wk : IntKind.i64.wrap ((k : Int) + 1) = k + 1 := IntWalk.i64_in _ (by omega)
        obtain ⟨g, off, rfl, hgl, hcells⟩ := HR.out (by intro q; subst q; simp at hlt)
        obtain ⟨q0, q1, q2⟩ := hcells k hlt
        have r0 := (HW.out.cell (p := ⟨g, off + k * 3, none⟩) hgl).trans q0
        have r1 := (HW.out.cell (p := ⟨g, off + k * 3 + 1, none⟩) hgl).trans q1
        have r2 := (HW.out.cell (p := ⟨g, off + k * 3 + 2, none⟩) hgl).trans q2
        clear q0 q1 q2 hcells
        have HX : Hid (l[k].text.size ≤ 2000) := Lib.hid (HM.out _ (List.getElem_mem hlt))
        have HT : Hid (tiCells (l.take (k + 1)) = tiCells (l.take k) ++ [.int .i64 l[k].kind, .string l[k].text, .int .i64 l[k].at_]) := Lib.hid (tiCells_take hlt)
        generalize l[k] = x at r0 r1 r2 HX HT
        obtain ⟨kind, text, at_⟩ := x
        dsimp only at r0 r1 r2 HX HT
        have hW := fun w => Write_any kind text at_ w (by have := HX.out; omega)
        have hV := fun w => rWrite_any kind text at_ w (by have := HX.out; omega)
        have hC := fun w => Check_any kind text at_ w
        have hD := fun w => rCheck_any kind text at_ w (by have := HX.out; omega)
        rw [chkR_eq] at hD
        generalize chkB kind text = E at hW hV hC hD
        generalize writeB kind text = T at hW hV
        go_wp2_with fail
        refine (hW _).mono ?_
        rintro e w1 ⟨rfl, hb1⟩
        have hT := (hb1.block wr.heap.size (by simp)).trans (heap_alloc_new wr _)
        have HB1 : Hid (Below wr.heap.size wr w1) := Lib.hid ((below_alloc1 wr (.cells #[.int .i64 kind, .string text, .int .i64 at_] 27)).trans (hb1.mono (by simp)))
        have hw1 : wr.heap.size < w1.heap.size := (Array.getElem?_eq_some_iff.1 hT).1
        clear hb1 hW r0 r1 r2
        have t0 : w1.cell? ⟨wr.heap.size, 0, none⟩ = some (.int .i64 kind) := by simp [World.cell?, hT]
        have t1 : w1.cell? ⟨wr.heap.size, 1, none⟩ = some (.string text) := by simp [World.cell?, hT]
        have t2 : w1.cell? ⟨wr.heap.size, 2, none⟩ = some (.int .i64 at_) := by simp [World.cell?, hT]
        go_wp2_with fail
        refine (hV _).mono ?_
        rintro e w2 ⟨rfl, hb2⟩
        have hT2 := (hb2.block wr.heap.size hw1).trans hT
        have HB2 : Hid (Below wr.heap.size wr w2) := Lib.hid (HB1.out.trans (hb2.mono HB1.out.size))
        have hw2 : wr.heap.size < w2.heap.size := (Array.getElem?_eq_some_iff.1 hT2).1
        clear hb2 hV t0 t1 t2 hT HB1 hw1
        have t0 : w2.cell? ⟨wr.heap.size, 0, none⟩ = some (.int .i64 kind) := by simp [World.cell?, hT2]
        have t1 : w2.cell? ⟨wr.heap.size, 1, none⟩ = some (.string text) := by simp [World.cell?, hT2]
        have t2 : w2.cell? ⟨wr.heap.size, 2, none⟩ = some (.int .i64 at_) := by simp [World.cell?, hT2]
        go_wp2_with fail
        clear hT2
        go_region_with (first
          | (go_at_call 11; refine (hC _).mono ?_; rintro e wA ⟨rfl, hbA⟩; have t0 := (hbA.cell (p := ⟨wr.heap.size, 0, none⟩) hw2).trans t0; have t1 := (hbA.cell (p := ⟨wr.heap.size, 1, none⟩) hw2).trans t1; have t2 := (hbA.cell (p := ⟨wr.heap.size, 2, none⟩) hw2).trans t2; have HB2 : Hid (Below wr.heap.size wr wA) := (by first | exact Lib.hid (HB2.out.trans (hbA.mono HB2.out.size)) | exact Lib.hid (HB2.out.drew.trans (hbA.mono HB2.out.size))); have hw2 : wr.heap.size < wA.heap.size := Nat.lt_of_lt_of_le hw2 hbA.size; clear hbA)
          | (go_at_call 12; refine (hD _).mono ?_; rintro e wA ⟨rfl, hbA⟩; have t0 := (hbA.cell (p := ⟨wr.heap.size, 0, none⟩) hw2).trans t0; have t1 := (hbA.cell (p := ⟨wr.heap.size, 1, none⟩) hw2).trans t1; have t2 := (hbA.cell (p := ⟨wr.heap.size, 2, none⟩) hw2).trans t2; have HB2 : Hid (Below wr.heap.size wr wA) := (by first | exact Lib.hid (HB2.out.trans (hbA.mono HB2.out.size)) | exact Lib.hid (HB2.out.drew.trans (hbA.mono HB2.out.size))); have hw2 : wr.heap.size < wA.heap.size := Nat.lt_of_lt_of_le hw2 hbA.size; clear hbA))
        all_goals clear hC hD HX
        all_goals
          (have hown := (Keep.of_below (S := fun _ => False) HB2.out).owns HO.out (fun _ _ q => q)
           have HBA : Hid (Below w.heap.size w wA) := Lib.hid (HW.out.trans (HB2.out.mono HW.out.size))
           have hwA := HBA.out.size
           go_wp2_with (at_builtin; refine wpList_append_lies _ (by rfl) _ _ _ (by rfl) w.heap.size 32 i0 _ 3 32 Tryz.underlying25 hi0 hz0 hz1 hz2 (by rfl) (by omega) _ k (tiCells (l.take k)) (by rfl) (hown.alloc _) ⟨wA.heap.size, 0, none⟩ 1 1 [.int .i64 kind, .string text, .int .i64 at_] (by rfl) (by rfl) (World.news_of_block (cs := #[.int .i64 kind, .string text, .int .i64 at_]) (t := 32) (fr := (0, 0)) (heap_alloc_new _ _)) (by simp [Value.oneCell']) (by omega) (by unfold maxLen; omega) (by omega) (by simp; omega) _ (by rfl) ?_; intro gg cap3 w5 hown1 hgrow hat hlt9; have HB5 : Hid (Below w.heap.size w w5) := Lib.hid ((HBA.out.alloc hwA _).grown hgrow (by simp; omega) (fun k hk => (hown.lt k hk).1)); have HO5 := Lib.hid hown1; clear hgrow hown1 hat hlt9)
           go_roundw
           case rel => exact ⟨k + 1, _, by omega, by go_num, rfl, Lib.hid (by rw [HT.out]; exact HO5.out), HB5⟩
           case measure => simp [intOf]; omega)
      · have l0 : decide ((k : Int) < (l.length : Int)) = false := decide_eq_false (by omega)
        obtain rfl : k = l.length := by omega
        have hJ := Join_any l ao cap wr (HR.out.below HW.out) HM.out hll
        have ho := HO.out
        rw [List.take_length] at ho
        obtain ⟨bo, bcap, rfl, hrow2⟩ := tiRow_own ho
        have hK := fun W (hb : Below wr.heap.size wr W) => rJoin_any l bo bcap W (hrow2.below hb) HM.out hll
        clear ho HO hrow2
        generalize (joinB l).1 = T at hJ hK
        generalize (joinB l).2 = E at hJ hK
        go_wp2_with fail
        refine hJ.mono ?_
        rintro e w5 ⟨rfl, hb5⟩
        clear hJ
        go_wp2_with fail
        refine (hK _ hb5).mono ?_
        rintro e w6 ⟨rfl, hb6⟩
        have HB6 : Hid (Below w.heap.size w w6) := Lib.hid ((HW.out.trans (hb5.mono HW.out.size)).trans (hb6.mono (Nat.le_trans HW.out.size hb5.size)))
        clear hb5 hb6 hK
        go_wp2_with fail
        refine (HA.out _ HB6.out).mono ?_
        rintro e w7 ⟨rfl, hb7⟩
        go_wp2_with fail
        go_ret
        exact ⟨rfl, HB6.out.trans (hb7.mono HB6.out.size)⟩
end Go.Proofs.YtmapaagdaojpaaaGreatDoor
