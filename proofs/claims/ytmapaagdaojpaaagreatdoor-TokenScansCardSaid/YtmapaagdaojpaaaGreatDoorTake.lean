/- The closure of (*scanner).token that takes a token's text. -/
import Derived.Test.YtmapaagdaojpaaaGreatDoorSkip
namespace Go.Proofs.YtmapaagdaojpaaaGreatDoor
open Go.RowKit

theorem take_info {x y z : Value} : (Tryz.prog.info? 27).map (·.size) = some (#[x, y, z] : Array Value).size := by
  show _ = some 3
  kernel_rfl
theorem take_heap (w : World) (g : Nat) (a c b a' c' b' : Value) (h : w.heap[g]? = some (.cells #[a, b, c] 27 (0, 0))) :
    (((w.setCell ⟨g, 0, none⟩ a').setCell ⟨g, 1, none⟩ b').setCell ⟨g, 2, none⟩ c').heap[g]? = some (.cells #[a', b', c'] 27 (0, 0)) := by
  have h1 := heap_setCell_same w g 0 _ _ a' h
  have h2 := heap_setCell_same _ g 1 _ _ b' h1
  have h3 := heap_setCell_same _ g 2 _ _ c' h2
  rw [h3]; simp
theorem take_keep (w : World) (g : Nat) (a b c : Value) :
    Keep (fun k => k = g) w (((w.setCell ⟨g, 0, none⟩ a).setCell ⟨g, 1, none⟩ b).setCell ⟨g, 2, none⟩ c).drew :=
  (((Keep.of_setCell w ⟨g, 0, none⟩ a).trans (Keep.of_setCell _ ⟨g, 1, none⟩ b) (fun _ _ e => e)).trans (Keep.of_setCell _ ⟨g, 2, none⟩ c) (fun _ _ e => e)).trans (Keep.of_drewN (S := fun _ => False) _ 1) (fun _ _ q => False.elim q)

set_option maxHeartbeats 1000000 in
set_option maxRecDepth 100000 in
theorem take_any (B b p q : Nat) (s : ByteArray) (at_ fr fin : Nat) (kind : Int) (sp : List (Nat × Nat)) (v : Value) (w : World) (_hs : s.size ≤ 40000) (hw : ScanAt B b s at_ sp v w)
    (hp : w.heap[p]? = some (.cells #[.pointer (some ⟨b, 0, none⟩)] 77 (0, 0))) (hq : w.heap[q]? = some (.cells #[.int .i64 fr] 3 (0, 0))) (h1 : fr ≤ fin) (h2 : fin ≤ s.size) (h3 : at_ ≤ fin) :
    Calls Tryz.prog 110 #[.int .i64 kind, .int .i64 fin, .pointer (some ⟨p, 0, none⟩), .pointer (some ⟨q, 0, none⟩)] w fun e w' =>
      e = .returned (.agg #[.int .i64 kind, .string (s.extract fr fin), .int .i64 fr]) ∧ ScanAt B b s fin sp v w' ∧ Keep (fun k => k = b) w w' := by
  clear _hs
  have hc0 := hw.row.c0
  have hc1 := hw.row.c1
  have hf1 := hw.row.frozen 1
  have hbs := hw.row.lt
  have hpl : p < w.heap.size := by obtain ⟨h, _⟩ := Array.getElem?_eq_some_iff.1 hp; exact h
  have hql : q < w.heap.size := by obtain ⟨h, _⟩ := Array.getElem?_eq_some_iff.1 hq; exact h
  have hpb : p ≠ b := by
    rintro rfl
    obtain ⟨d, hd, hn, _⟩ := hw.row
    rw [hp] at hd; cases hd
  have hqb : q ≠ b := by
    rintro rfl
    obtain ⟨d, hd, hn, _⟩ := hw.row
    rw [hq] at hd; cases hd
  have cp : w.cell? ⟨p, 0, none⟩ = some (.pointer (some ⟨b, 0, none⟩)) := by simp [World.cell?, hp]
  have cq : w.cell? ⟨q, 0, none⟩ = some (.int .i64 fr) := by simp [World.cell?, hq]
  have i1 : (0 : Int) ≤ fr := by omega
  have i2 : (fr : Int) ≤ fin := by omega
  have i3 : (fin : Int) ≤ s.size := by omega
  clear hp hq
  go_enter Tryz.func110, Tryz.ntmps110
  go_wp2_with (fail)
  have hA2 := hw.set1 fin h2 h3
  have hK2 : Keep (fun k => k = b) w (w.setCell ⟨b, 1, none⟩ (.int .i64 fin)) := Keep.of_setCell w ⟨b, 1, none⟩ _
  have hsz : (w.setCell ⟨b, 1, none⟩ (.int .i64 fin)).heap.size = w.heap.size := by simp
  have hp2 : (w.setCell ⟨b, 1, none⟩ (.int .i64 fin)).cell? ⟨p, 0, none⟩ = _ := (hK2.cell (p := ⟨p, 0, none⟩) hpl hpb).trans cp
  have hq2 : (w.setCell ⟨b, 1, none⟩ (.int .i64 fin)).cell? ⟨q, 0, none⟩ = _ := (hK2.cell (p := ⟨q, 0, none⟩) hql hqb).trans cq
  generalize w.setCell ⟨b, 1, none⟩ (.int .i64 fin) = W at hA2 hK2 hsz hp2 hq2 ⊢
  have hA3 : ScanAt B b s fin sp v (W.alloc (.cells #[.int .i64 0, .string ⟨#[]⟩, .int .i64 0] 27)) :=
    ⟨World.rowIs.alloc hA2.row _, (Keep.of_alloc (S := fun _ => False) W _).owns hA2.own (fun _ _ q => q), hA2.le, hA2.few⟩
  have hT := heap_alloc_new W (.cells #[.int .i64 0, .string ⟨#[]⟩, .int .i64 0] 27)
  have hp3 := (World.cell?_alloc_lt W (.cells #[.int .i64 0, .string ⟨#[]⟩, .int .i64 0] 27) ⟨p, 0, none⟩ (by show p < _; omega)).trans hp2
  have hq3 := (World.cell?_alloc_lt W (.cells #[.int .i64 0, .string ⟨#[]⟩, .int .i64 0] 27) ⟨q, 0, none⟩ (by show q < _; omega)).trans hq2
  have hK3 : Keep (fun k => k = b) w (W.alloc (.cells #[.int .i64 0, .string ⟨#[]⟩, .int .i64 0] 27)) := hK2.trans (Keep.of_alloc (S := fun _ => False) W _) (fun _ _ q => False.elim q)
  rw [hsz] at hT
  generalize W.alloc (.cells #[.int .i64 0, .string ⟨#[]⟩, .int .i64 0] 27) = W5 at hA3 hT hp3 hq3 hK3 ⊢
  have t0 : W5.cell? ⟨w.heap.size, 0, none⟩ = some (.int .i64 0) := by simp [World.cell?, hT]
  have t1 : W5.cell? ⟨w.heap.size, 1, none⟩ = some (.string ⟨#[]⟩) := by simp [World.cell?, hT]
  have t2 : W5.cell? ⟨w.heap.size, 2, none⟩ = some (.int .i64 0) := by simp [World.cell?, hT]
  have tf : ∀ j, W5.frozen? ⟨w.heap.size, j, none⟩ = false := fun j => by simp [World.frozen?, hT]
  have f0 := tf 0
  have f1 := tf 1
  have f2 := tf 2
  have hc0 := hA3.row.c0
  have HT := Lib.hid hT
  clear hT tf hsz hc1 hf1 cp cq hp2 hq2
  go_region
  all_goals go_wp2
  have HT := HT.out
  have E := take_heap W5 w.heap.size (.int .i64 0) (.int .i64 0) (.string ⟨#[]⟩) (.int .i64 kind) (.int .i64 fr) (.string (s.extract fr fin)) HT
  have hvl : ∀ k, v.ownBlock = some k → k < w.heap.size := fun k e => by
    obtain ⟨c, hc⟩ := ownsRow_type hw.own e
    obtain ⟨h, _⟩ := Array.getElem?_eq_some_iff.1 hc
    exact h
  have hK : ∀ u : World, Keep (fun k => k = w.heap.size) W5 u → ScanAt B b s fin sp v u ∧ Keep (fun k => k = b) w u := fun u hu =>
    ⟨⟨hu.row hA3.row (by omega), hu.owns hA3.own (fun k e q => by have := hvl k e; omega), hA3.le, hA3.few⟩, hK3.trans hu (fun i hi e => by omega)⟩
  refine bodyPost_ret (v := .agg #[.int .i64 kind, .string (s.extract fr fin), .int .i64 fr]) ?_ rfl ?_
  · exact results_cell_row rfl _ _ w.heap.size 27 _ (0, 0) _ rfl E Tryz.underlying27 rfl take_info
  · exact ⟨rfl, hK _ (take_keep W5 _ _ _ _)⟩
end Go.Proofs.YtmapaagdaojpaaaGreatDoor
