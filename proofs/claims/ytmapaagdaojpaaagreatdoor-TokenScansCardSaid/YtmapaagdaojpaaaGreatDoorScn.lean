/- token.scan = scanN. -/
import Derived.Test.YtmapaagdaojpaaaGreatDoorScy
namespace Go.Proofs.YtmapaagdaojpaaaGreatDoor
open Go.RowKit

theorem tokens_any (b : Nat) (w : World) :
    Calls Tryz.prog 72 #[.pointer (some ⟨b, 0, none⟩)] w fun e w' => e = .returned (.func (.func 94) #[] #[.pointer (some ⟨w.heap.size, 0, none⟩)]) ∧ w' = w.alloc (.cells #[.pointer (some ⟨b, 0, none⟩)] 77) := by
  go_enter Tryz.func72, Tryz.ntmps72
  go_wp2
  go_ret
  exact ⟨rfl, rfl⟩
theorem alloc_old {w : World} {k : Nat} {x : Obj} (o : Obj) (h : w.heap[k]? = some x) : (w.alloc o).heap[k]? = some x := (Below.heap_alloc w o k (Array.getElem?_eq_some_iff.1 h).1).trans h
theorem alloc_at {w : World} {n : Nat} (o : Obj) (h : w.heap.size = n) : (w.alloc o).heap[n]? = some o := h ▸ heap_alloc_new w o
theorem scan_start {w w1 : World} {s : ByteArray} {rec : Loop} {W : World}
    (hb1 : Below (((w.alloc (.cells #[.slice none 0 0] 22)).alloc (.cells #[.pointer none] 77)).alloc (.cells #[.nilIface] 46)).heap.size
      (((w.alloc (.cells #[.slice none 0 0] 22)).alloc (.cells #[.pointer none] 77)).alloc (.cells #[.nilIface] 46)) w1)
    (hW : W = (((((w1.alloc (.cells (scanArr s) 93)).alloc (.cells #[.pointer (some ⟨w1.heap.size, 0, none⟩)] 77)).alloc (.cells #[.slice none 0 0] 22)).alloc
      (.cells #[.pointer (some ⟨w1.heap.size, 0, none⟩)] 77)).alloc (.deferred (some []))).alloc (.loop rec)) :
    w.heap.size + 3 ≤ w1.heap.size ∧ ScanM w w1.heap.size (w1.heap.size + 1) rec [] W ∧ ScanAt w.heap.size w1.heap.size s 0 [] (.slice none 0 0) W := by
  have h2 := alloc_old (.cells #[.nilIface] 46) (alloc_old (.cells #[.pointer none] 77) (alloc_at (w := w) (.cells #[.slice none 0 0] 22) rfl))
  have h3 := alloc_old (.cells #[.nilIface] 46) (alloc_at (w := w.alloc (.cells #[.slice none 0 0] 22)) (n := w.heap.size + 1) (.cells #[.pointer none] 77) (by simp))
  have h4 := alloc_at (w := (w.alloc (.cells #[.slice none 0 0] 22)).alloc (.cells #[.pointer none] 77)) (n := w.heap.size + 2) (.cells #[.nilIface] 46) (by simp)
  have hz : (((w.alloc (.cells #[.slice none 0 0] 22)).alloc (.cells #[.pointer none] 77)).alloc (.cells #[.nilIface] 46)).heap.size = w.heap.size + 3 := by simp
  have hB0 : Below w.heap.size w (((w.alloc (.cells #[.slice none 0 0] 22)).alloc (.cells #[.pointer none] 77)).alloc (.cells #[.nilIface] 46)) :=
    (((Below.refl _ w).alloc (Nat.le_refl _) _).alloc (by simp) _).alloc (by simp; omega) _
  generalize ((w.alloc (.cells #[.slice none 0 0] 22)).alloc (.cells #[.pointer none] 77)).alloc (.cells #[.nilIface] 46) = W0 at hb1 h2 h3 h4 hz hB0
  have g2 := (hb1.block w.heap.size (by omega)).trans h2
  have g3 := (hb1.block (w.heap.size + 1) (by omega)).trans h3
  have g4 := (hb1.block (w.heap.size + 2) (by omega)).trans h4
  have hsz : w.heap.size + 3 ≤ w1.heap.size := by have := hb1.size; omega
  have hB1 : Below w.heap.size w w1 := hB0.trans (hb1.mono (by omega))
  have hn := scan_new w1 s
  subst hW
  refine ⟨hsz, ⟨?_, ?_, ?_, ?_, ?_, ⟨.slice none 0 0, ?_, ⟨rfl, .inl ⟨rfl, rfl⟩⟩, by simp⟩, ?_, ?_, ?_⟩, ⟨?_, ⟨rfl, .inl ⟨rfl, rfl⟩⟩, Nat.zero_le _, Nat.le_refl _⟩⟩
  · exact (((((hB1.alloc (by omega) _).alloc (by simp; omega) _).alloc (by simp; omega) _).alloc (by simp; omega) _).alloc (by simp; omega) _).alloc (by simp; omega) _
  · exact alloc_old _ (alloc_old _ (alloc_old _ (alloc_old _ (alloc_old _ (alloc_old _ g2)))))
  · exact alloc_old _ (alloc_old _ (alloc_old _ (alloc_old _ (alloc_old _ (alloc_old _ g3)))))
  · exact alloc_old _ (alloc_old _ (alloc_old _ (alloc_old _ (alloc_old _ (alloc_old _ g4)))))
  · exact alloc_old _ (alloc_old _ (alloc_old _ (alloc_old _ (alloc_at _ (by simp)))))
  · exact alloc_old _ (alloc_old _ (alloc_old _ (alloc_at _ (by simp))))
  · exact alloc_old _ (alloc_old _ (alloc_at _ (by simp)))
  · exact alloc_old _ (alloc_at _ (by simp))
  · exact alloc_at _ (by simp)
  · exact World.rowIs.alloc (World.rowIs.alloc (World.rowIs.alloc (World.rowIs.alloc (World.rowIs.alloc hn _) _) _) _) _
theorem scan_leave {R : Ending → World → Prop} {tmps : Array Value} {D g : Nat} {U : World} {x y z : Value} (hm : U.heap[D]? = some (.deferred (some [])))
    (t2 : tmps[2]? = some (.pointer (some ⟨g, 0, none⟩))) (t3 : tmps[3]? = some (.pointer (some ⟨g + 1, 0, none⟩))) (t4 : tmps[4]? = some (.pointer (some ⟨g + 2, 0, none⟩)))
    (b2 : U.heap[g]? = some (.cells #[x] 22 (0, 0))) (b3 : U.heap[g + 1]? = some (.cells #[y] 77 (0, 0))) (b4 : U.heap[g + 2]? = some (.cells #[z] 46 (0, 0)))
    (hR : R (.returned (.tuple #[x, y, z])) (U.putObj D (.deferred none))) :
    LeavesInM Fence.wide 6 Tryz.prog Tryz.f46 tmps R [{ target := .collected D, args := #[] }] .returning U := by
  refine ⟨by simp, .inl ⟨D, _, rfl, run_takeDeferred hm, ?_⟩⟩
  have K := Keep.putObj U D (.deferred none)
  have hne : ∀ {k : Nat} {c : Array Value} {t : TypeId}, U.heap[k]? = some (.cells c t (0, 0)) → (U.putObj D (.deferred none)).heap[k]? = some (.cells c t (0, 0)) := fun h =>
    (K.block _ (Array.getElem?_eq_some_iff.1 h).1 (fun q => by subst q; rw [hm] at h; cases h)).trans h
  have c2 : (U.putObj D (.deferred none)).cell? ⟨g, 0, none⟩ = some x := by simp [World.cell?, hne b2]
  have c3 : (U.putObj D (.deferred none)).cell? ⟨g + 1, 0, none⟩ = some y := by simp [World.cell?, hne b3]
  have c4 : (U.putObj D (.deferred none)).cell? ⟨g + 2, 0, none⟩ = some z := by simp [World.cell?, hne b4]
  refine ⟨.tuple #[x, y, z], ?_, hR⟩
  generalize U.putObj D (.deferred none) = V at c2 c3 c4
  simp [results, Tryz.f46, go_sem, t2, t3, t4, c2, c3, c4]
theorem ScanM.done {w W : World} {b p i : Nat} {s : ByteArray} {sp : List (Nat × Nat)} {v vo : Value} {r : Loop} {acc : List Tk} (h : ScanM w b p r acc W) (hb : w.heap.size + 3 ≤ b) (hp : b < p) (hA : ScanAt w.heap.size b s i sp v W)
    (hrow : W.ownsRow w.heap.size 27 3 vo acc.length (tkCells acc)) {U : World}
    (hU : U = (((W.setCell ⟨w.heap.size, 0, none⟩ vo).setCell ⟨w.heap.size + 1, 0, none⟩ (.pointer (some ⟨b, 0, none⟩))).setCell ⟨w.heap.size + 2, 0, none⟩ .nilIface).drew) :
    U.heap[w.heap.size]? = some (.cells #[vo] 22 (0, 0)) ∧ U.heap[w.heap.size + 1]? = some (.cells #[.pointer (some ⟨b, 0, none⟩)] 77 (0, 0)) ∧ U.heap[w.heap.size + 2]? = some (.cells #[.nilIface] 46 (0, 0)) ∧
    U.heap[p + 3]? = some (.deferred (some [])) ∧ (U.putObj (p + 3) (.deferred none)).ownsRow w.heap.size 27 3 vo acc.length (tkCells acc) ∧ ScanAt w.heap.size b s i sp v (U.putObj (p + 3) (.deferred none)) ∧ Below w.heap.size w (U.putObj (p + 3) (.deferred none)) := by
  have hgt := h.gt
  have b2 := set_box h.r2 vo
  have K1 := Keep.of_setCell W ⟨w.heap.size, 0, none⟩ vo
  have z1 : (W.setCell ⟨w.heap.size, 0, none⟩ vo).heap.size = W.heap.size := by simp
  generalize W.setCell ⟨w.heap.size, 0, none⟩ vo = W1 at b2 K1 z1 hU
  have b3 := set_box ((K1.block (w.heap.size + 1) (by omega) (by show ¬ w.heap.size + 1 = w.heap.size; omega)).trans h.r3) (.pointer (some ⟨b, 0, none⟩))
  have K2 := Keep.of_setCell W1 ⟨w.heap.size + 1, 0, none⟩ (.pointer (some ⟨b, 0, none⟩))
  have z2 : (W1.setCell ⟨w.heap.size + 1, 0, none⟩ (.pointer (some ⟨b, 0, none⟩))).heap.size = W.heap.size := by simp [z1]
  generalize W1.setCell ⟨w.heap.size + 1, 0, none⟩ (.pointer (some ⟨b, 0, none⟩)) = W2 at b3 K2 z2 hU
  have K12 : Keep (fun k => k = w.heap.size ∨ k = w.heap.size + 1) W W2 := Keep.trans (K1.mono (fun _ _ q => .inl q)) K2 (fun _ _ q => .inr q)
  have b4 := set_box ((K12.block (w.heap.size + 2) (by omega) (by omega)).trans h.r4) .nilIface
  have K3 := Keep.of_setCell W2 ⟨w.heap.size + 2, 0, none⟩ .nilIface
  have z3 : (W2.setCell ⟨w.heap.size + 2, 0, none⟩ .nilIface).heap.size = W.heap.size := by simp [z2]
  generalize W2.setCell ⟨w.heap.size + 2, 0, none⟩ .nilIface = W3 at b4 K3 z3 hU
  subst hU
  have K123 : Keep (fun k => k = w.heap.size ∨ k = w.heap.size + 1 ∨ k = w.heap.size + 2) W W3.drew :=
    Keep.trans (Keep.trans (K12.mono (fun _ _ q => by omega)) K3 (fun _ _ q => by have : _ = w.heap.size + 2 := q; omega)) (Keep.of_drewN (S := fun _ => False) W3 1) (fun _ _ q => q.elim)
  have hmark : W3.drew.heap[p + 3]? = some (.deferred (some [])) := (K123.block _ (by omega) (by omega)).trans h.mark
  have K4 := Keep.putObj W3.drew (p + 3) (.deferred none)
  have K : Keep (fun k => k = w.heap.size ∨ k = w.heap.size + 1 ∨ k = w.heap.size + 2 ∨ k = p + 3) W (W3.drew.putObj (p + 3) (.deferred none)) := Keep.trans (K123.mono (fun _ _ q => by omega)) K4 (fun _ _ q => by omega)
  refine ⟨?_, ?_, b4, hmark, K.owns hrow (fun k e q => ?_), hA.keep K (by omega) (fun k e q => ?_), h.below.trans (K.below h.below.size (fun i hi q => by omega))⟩
  · exact (K3.block w.heap.size (by omega) (by show ¬ w.heap.size = w.heap.size + 2; omega)).trans ((K2.block w.heap.size (by omega) (by show ¬ w.heap.size = w.heap.size + 1; omega)).trans b2)
  · exact (K3.block (w.heap.size + 1) (by omega) (by show ¬ w.heap.size + 1 = w.heap.size + 2; omega)).trans b3
  · obtain ⟨c, hc⟩ := ownsRow_type hrow e
    rcases q with rfl | rfl | rfl | rfl
    · rw [h.r2] at hc; cases hc
    · rw [h.r3] at hc; cases hc
    · rw [h.r4] at hc; cases hc
    · rw [h.mark] at hc; cases hc
  · obtain ⟨c, hc⟩ := ownsRow_type hA.own e
    rcases q with rfl | rfl | rfl | rfl
    · rw [h.r2] at hc; cases hc
    · rw [h.r3] at hc; cases hc
    · rw [h.r4] at hc; cases hc
    · rw [h.mark] at hc; cases hc
def ScanPost (s : ByteArray) (w : World) (R : ScanR) (e : Ending) (W' : World) : Prop :=
  match R with
  | .bad c x => ∃ b k, e = .returned (.tuple #[.slice none 0 0, .pointer (some ⟨b, 0, none⟩), .iface 110 (.pointer (some ⟨k, 0, none⟩))]) ∧ W'.heap[k]? = some (.cells #[.int .i64 x, .int .i64 c] 112 (0, 0)) ∧ Below w.heap.size w W'
  | .ok l sp => ∃ b v vo, e = .returned (.tuple #[vo, .pointer (some ⟨b, 0, none⟩), .nilIface]) ∧ W'.ownsRow w.heap.size 27 3 vo l.length (tkCells l) ∧ (vo = .slice none 0 0 ↔ l = []) ∧ ScanAt w.heap.size b s s.size sp v W' ∧ Below w.heap.size w W'
set_option maxHeartbeats 2000000 in
set_option maxRecDepth 100000 in
theorem scan_any (s : ByteArray) (m : Int) (w : World) (hs : s.size ≤ 40000) (hg : 1 < w.heap.size) (hm : w.cell? ⟨1, 0, none⟩ = some (.int .i64 m)) :
    Calls Tryz.prog 46 #[.string s] w (ScanPost s w (scanN s)) := by
  have HR : Hid (toksN s (s.size + 1) 0 [] [] = scanN s) := Lib.hid (by unfold scanN; rw [if_neg (by omega)])
  generalize scanN s = R at HR ⊢
  have d0 : decide ((40000 : Int) < (s.size : Int)) = false := decide_eq_false (by omega)
  have hFn : ∀ f, Fence.wide.fn f := fun _ => trivial
  refine callsIn_wide.1 (callsIn_of_wp_marks (n := 6) Tryz.func46 rfl trivial ?_)
  simp only [Tryz.ntmps46, List.size_toArray, List.length_cons, List.length_nil, Nat.reduceAdd, Nat.reduceSub, Array.replicate_succ, Array.replicate_zero, List.push_toArray, List.append_toArray, List.nil_append, List.cons_append]
  refine wpIn_wide.2 ?_
  go_wp2_with fail
  refine (classes_any _).mono ?_
  rintro e w1 ⟨rfl, hb1⟩
  go_wp2_with (refine wpList_build_as rfl 93 #[(0, .tmp 9), (2, .tmp 10)] rfl [(0, .string s), (2, .agg clsArr)] (by simp [Act.eval]) (scanArr s) (scan_built s) ?_)
  refine (tokens_any _ _).mono ?_
  rintro e w2 ⟨rfl, rfl⟩
  go_wp2_with fail
  refine (wpIn_wide (n := 6)).1 (range_law rfl (enters_of Tryz.func94 (by kernel_rfl) rfl) ?_)
  intro fn W5 hW5
  obtain ⟨hsz, hSM, hSA⟩ := scan_start hb1 hW5
  have hbB : w.heap.size ≤ w1.heap.size := by omega
  clear hW5
  generalize hl : (World.alloc _ _).heap.size = q5
  have hq5 : q5 = w1.heap.size + 4 := by rw [← hl]; simp
  clear hl
  subst hq5
  refine (tokens1_any w.heap.size w1.heap.size (w1.heap.size + 3) s m (w1.heap.size + 1 + 4) (ScanM w w1.heap.size (w1.heap.size + 1) _) (ScanX w w1.heap.size (w1.heap.size + 1)) hs hg hbB
    (fun acc i sp v W W' h hA hk => h.step hbB (by omega) hsz hA hk) (fun acc W h => ⟨by simp [World.cell?, h.cb], ?_, h.below.size⟩)
    (fun acc i sp v W kind text j h hA hl => scan_round w w1.heap.size (w1.heap.size + 1) fn _ i j s sp v acc W kind text _ _ _ _ _ _ _ _ _ _ _ _ _ _ _ _ _ _ _ _ _ _ _ _ _ _ _ _ _ hsz (by omega) h hA hl)
    (fun acc W code x k h hk => scan_stop w w1.heap.size (w1.heap.size + 1) fn _ acc W code x k _ _ _ _ _ _ _ _ _ _ _ _ _ _ _ _ _ _ _ _ _ _ _ _ _ _ _ _ _ hsz (by omega) h hk) W5 _ hSM hSA R HR).mono ?_
  · exact (h.below.cell (p := ⟨1, 0, none⟩) hg).trans hm
  intro e W6 hP
  obtain ⟨⟨v0, rfl⟩, hP⟩ := hP
  cases R with
  | bad c x =>
    have hP : ScanX w w1.heap.size (w1.heap.size + 1) c x W6 := hP
    obtain ⟨r, hr, hst, hpe⟩ := hP.loop
    refine ⟨some .ret, W6.putObj (w1.heap.size + 1 + 4) (.loop { r with state := .exhausted }), by rw [← hpe]; exact run_endLoop hr (by rw [hst]; decide), ?_⟩
    have K := Keep.putObj W6 (w1.heap.size + 1 + 4) (.loop { r with state := .exhausted })
    have hl6 := (Array.getElem?_eq_some_iff.1 hr).1
    have b2 := (K.block w.heap.size (by omega) (by omega)).trans hP.r2
    have b3 := (K.block (w.heap.size + 1) (by omega) (by omega)).trans hP.r3
    obtain ⟨k, h4, hk⟩ := hP.r4
    have b4 := (K.block (w.heap.size + 2) (by omega) (by omega)).trans h4
    have bk := (K.block k (Array.getElem?_eq_some_iff.1 hk).1 (fun q => by subst q; rw [hr] at hk; cases hk)).trans hk
    have bm := (K.block (w1.heap.size + 1 + 3) (by omega) (by omega)).trans hP.mark
    have hbel : Below w.heap.size w (W6.putObj (w1.heap.size + 1 + 4) (.loop { r with state := .exhausted })) := hP.below.trans (K.below hP.below.size (fun i hi q => by omega))
    clear K hl6 h4 hk
    generalize W6.putObj (w1.heap.size + 1 + 4) (.loop { r with state := .exhausted }) = W7 at b2 b3 b4 bk bm hbel ⊢
    gi_wp2
    have K := Keep.putObj W7 (w1.heap.size + 1 + 3) (.deferred none)
    exact scan_leave bm rfl rfl rfl b2 b3 b4 ⟨_, k, rfl, (K.block k (Array.getElem?_eq_some_iff.1 bk).1 (fun q => by subst q; rw [bm] at bk; cases bk)).trans bk, hbel.trans (K.below hbel.size (fun i hi q => by omega))⟩
  | ok l sp =>
    obtain ⟨hM, v, hA⟩ : ScanM w w1.heap.size (w1.heap.size + 1) _ l W6 ∧ ∃ v, ScanAt w.heap.size w1.heap.size s s.size sp v W6 := hP
    obtain ⟨r, hrl, hrs, hrp⟩ : ∃ r : Loop, W6.heap[w1.heap.size + 1 + 4]? = some (.loop r) ∧ r.state ≠ .busy ∧ r.pending = none := ⟨_, hM.loop, by simp [recOf], rfl⟩
    refine ⟨none, W6.putObj (w1.heap.size + 1 + 4) (.loop { r with state := .exhausted }), by rw [← hrp]; exact run_endLoop hrl hrs, ?_⟩
    have hA7 := hA.putLoop hM (by omega) (.loop { r with state := .exhausted })
    have hM7 := hM.putLoop hsz (by omega) { r with state := .exhausted }
    clear hM hA hrl
    generalize W6.putObj (w1.heap.size + 1 + 4) (.loop { r with state := .exhausted }) = W7 at hM7 hA7 ⊢
    obtain ⟨vo, hvo, hrow, hnil⟩ := hM7.out
    obtain ⟨A, cap, rfl⟩ : ∃ A cap, vo = .slice A l.length cap := by
      rcases hrow.2 with ⟨e, h0⟩ | ⟨g, cap, cur, e, _⟩
      · exact ⟨none, 0, by rw [e, h0]⟩
      · exact ⟨_, _, e⟩
    have c2 : W7.cell? ⟨w.heap.size, 0, none⟩ = some (.slice none 0 0) := by simp [World.cell?, hM7.r2]
    have c3 : W7.cell? ⟨w.heap.size + 1, 0, none⟩ = some (.pointer none) := by simp [World.cell?, hM7.r3]
    have c4 : W7.cell? ⟨w.heap.size + 2, 0, none⟩ = some .nilIface := by simp [World.cell?, hM7.r4]
    have c5 : W7.cell? ⟨w1.heap.size + 1, 0, none⟩ = some (.pointer (some ⟨w1.heap.size, 0, none⟩)) := by simp [World.cell?, hM7.nm]
    have c6 : W7.cell? ⟨w1.heap.size + 1 + 1, 0, none⟩ = some (.slice A l.length cap) := by simp [World.cell?, hvo]
    have f2 : W7.frozen? ⟨w.heap.size, 0, none⟩ = false := by simp [World.frozen?, hM7.r2]
    have f3 : W7.frozen? ⟨w.heap.size + 1, 0, none⟩ = false := by simp [World.frozen?, hM7.r3]
    have f4 : W7.frozen? ⟨w.heap.size + 2, 0, none⟩ = false := by simp [World.frozen?, hM7.r4]
    dsimp only
    go_wp2
    go_region
    all_goals go_wp2
    all_goals
      obtain ⟨x2, x3, x4, x5, x6, x7, x8⟩ := hM7.done hsz (by omega) hA7 hrow rfl
      exact scan_leave x5 rfl rfl rfl x2 x3 x4 ⟨_, v, _, rfl, x6, hnil, x7, x8⟩
end Go.Proofs.YtmapaagdaojpaaaGreatDoor
