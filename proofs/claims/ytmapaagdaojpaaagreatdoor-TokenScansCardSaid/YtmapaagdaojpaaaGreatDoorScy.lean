/- token.scan: the rounds of its loop. -/
import Derived.Test.YtmapaagdaojpaaaGreatDoorScw
import Derived.OwnWalkIn
import Derived.Shelf.RegionOpen
import Derived.RangeFuncCalls
import Derived.RangeFuncBox
namespace Go.Proofs.YtmapaagdaojpaaaGreatDoor
open Go.RowKit

attribute [local go_sem] Oper.semAt_some
def recOf (fn : FuncId) (tmps : Array Value) (ps : Array Tmp) (assign body : Code) (D : Nat) (st : LoopState) (pe : Option Code) : Loop := { state := st, pending := pe, fn, tmps, params := ps, assign, body, defers := D }
theorem yield_law {P : Program} {l m : Nat} {W : World} {fn : FuncId} {tmps : Array Value} {ps : Array Tmp} {assign body : Code} {D : Nat} {args : Array Value} {R : Ending → World → Prop}
    (hl : W.heap[l]? = some (.loop (recOf fn tmps ps assign body D .ready none))) (hps : args.size = ps.size)
    (h : assign.wpIn (Fence.wide.inRound l) m P (Exit.then (fun a₁ w₁ => ∃ w₂, (Instr.beginRound l).run P w₁ = .ok () w₂ ∧ body.wpIn (Fence.wide.inRound l) m P (roundPost P l R) a₁ w₂) (fun _ _ _ => False))
      { tmps := (ps.zip args).foldl (fun t (p, v) => t.setIfInBounds p v) tmps, defers := [] } W) : YieldAt Fence.wide m P l args W R := by
  have hy := run_yield (P := P) (args := args) hl (by unfold recOf; exact hps)
  exact ⟨fn, _, assign, body, hy, roundIn_of_wpIn (F := Fence.wide) trivial h⟩
theorem range_law {P : Program} {g : Operand} {ps : Array Tmp} {assign body : Code} {Q : Exit → Act → World → Prop} {a : Act} {w : World} {n gf : Nat} {lb : Array Value} (hg : a.eval g = .func (.func gf) #[] lb)
    (eg : ∀ args w, (callFunc gf args).run P w = .ok (.enter gf args) w)
    (h : ∀ fn W1, W1 = (w.alloc (.deferred (some []))).alloc (.loop (recOf fn a.tmps ps assign body w.heap.size .ready none)) →
      Calls P gf (#[.func (.yield (w.heap.size + 1)) #[] #[]] ++ lb) W1 (rangePost Fence.wide n P (w.heap.size + 1) Q { a with defers := { target := .collected w.heap.size, args := #[] } :: a.defers })) :
    (Code.rangeFunc g ps assign body).wpIn Fence.wide n P Q a w := by
  refine wpIn_rangeFunc ?_
  intro fn _
  obtain ⟨W1, hW1⟩ : ∃ W1, (w.alloc (.deferred (some []))).alloc (.loop (recOf fn a.tmps ps assign body w.heap.size .ready none)) = W1 := ⟨_, rfl⟩
  refine ⟨w.heap.size + 1, [{ target := .collected w.heap.size, args := #[] }], W1, { target := .fn (.func gf) lb, args := #[.func (.yield (w.heap.size + 1)) #[] #[]] }, W1, gf,
    #[.func (.yield (w.heap.size + 1)) #[] #[]] ++ lb, W1, ?_, ?_, fun _ _ => trivial, ?_, ?_, ?_⟩
  · rw [← hW1]; exact run_enterLoop_outer _ _ _ _ _
  · simp only [resolve, hg]
    simp [go_sem]
  · simp [invoke, go_sem, eg]
  · intro q; simp [Fence.wide] at q
  · exact callsIn_wide.2 (h fn W1 hW1.symm)
/-- The loop of a function that holds one range over a function. -/
def theRange : Code → Option (Code × Code)
  | .rangeFunc _ _ a b => some (a, b)
  | .seq a b => match theRange a with
    | some c => some c
    | none => theRange b
  | .block _ c => theRange c
  | .scope c => theRange c
  | .cond _ a b => match theRange a with
    | some c => some c
    | none => theRange b
  | _ => none
noncomputable def scanParts : Code × Code := ((Tryz.f46.body.bind theRange).getD (.skip, .skip))
theorem heap_busy {W : World} {l : Nat} {r : Loop} (h : W.heap[l]? = some (.loop r)) (o : Obj) : (W.putObj l o).heap[l]? = some o := World.putObj_heap_same (Array.getElem?_eq_some_iff.1 h).1

section
variable {w W : World} {b p i B : Nat} {s : ByteArray} {sp : List (Nat × Nat)} {v : Value} {r : Loop} {acc : List Tk}
theorem ScanM.putLoop (h : ScanM w b p r acc W) (hb : w.heap.size + 3 ≤ b) (hp : b < p) (r' : Loop) : ScanM w b p r' acc (W.putObj (p + 4) (.loop r')) :=
  h.keep (Keep.putObj W (p + 4) _) (fun k q => by omega) (fun k hk q => by omega) (fun vo ho k e q => by
    obtain ⟨vo', ho', hrow, _⟩ := h.out
    rw [ho] at ho'; cases ho'
    obtain ⟨c, hc⟩ := ownsRow_type hrow e
    subst q; rw [h.loop] at hc; cases hc) (heap_busy h.loop _)
theorem ScanAt.putLoop (hA : ScanAt B b s i sp v W) (h : ScanM w b p r acc W) (hp : b < p) (o : Obj) : ScanAt B b s i sp v (W.putObj (p + 4) o) :=
  hA.keep (Keep.putObj W (p + 4) _) (by omega) (fun k e q => by
    obtain ⟨c, hc⟩ := ownsRow_type hA.own e
    subst q; rw [h.loop] at hc; cases hc)
end
theorem loop_back {r : Loop} (hst : r.state = .ready) (hpe : r.pending = none) : ({ r with state := .ready, pending := none } : Loop) = r := by
  cases r; simp only at hst hpe; subst hst hpe; rfl
theorem scanM_eq {w W : World} {b p : Nat} {q r : Loop} {acc : List Tk} (e : q = r) (h : ScanM w b p q acc W) : ScanM w b p r acc W := e ▸ h
theorem set_box {W : World} {g : Nat} {old : Value} {t : TypeId} (h : W.heap[g]? = some (.cells #[old] t (0, 0))) (new : Value) : (W.setCell ⟨g, 0, none⟩ new).heap[g]? = some (.cells #[new] t (0, 0)) := by
  have := heap_setCell_same W g 0 _ _ new h
  simpa using this
/-- What a round that met an error leaves. -/
structure ScanX (w : World) (b p : Nat) (code : Int) (x : Nat) (W : World) : Prop where
  below : Below w.heap.size w W
  r2 : W.heap[w.heap.size]? = some (.cells #[.slice none 0 0] 22 (0, 0))
  r3 : W.heap[w.heap.size + 1]? = some (.cells #[.pointer (some ⟨b, 0, none⟩)] 77 (0, 0))
  r4 : ∃ k, W.heap[w.heap.size + 2]? = some (.cells #[.iface 110 (.pointer (some ⟨k, 0, none⟩))] 46 (0, 0)) ∧ W.heap[k]? = some (.cells #[.int .i64 x, .int .i64 code] 112 (0, 0))
  mark : W.heap[p + 3]? = some (.deferred (some []))
  loop : ∃ r : Loop, W.heap[p + 4]? = some (.loop r) ∧ r.state = .done ∧ r.pending = some .ret

theorem ScanM.stop {w W : World} {b p k x : Nat} {r : Loop} {acc : List Tk} {code : Int} (h : ScanM w b p r acc W) (hb : w.heap.size + 3 ≤ b) (hp : b < p) (hk : W.heap[k]? = some (.cells #[.int .i64 x, .int .i64 code] 112 (0, 0)))
    (r' : Loop) (hst : r'.state = .done) (hpe : r'.pending = some .ret) :
    (((((W.setCell ⟨w.heap.size, 0, none⟩ (.slice none 0 0)).setCell ⟨w.heap.size + 1, 0, none⟩ (.pointer (some ⟨b, 0, none⟩))).setCell ⟨w.heap.size + 2, 0, none⟩ (.iface 110 (.pointer (some ⟨k, 0, none⟩))))).drew).heap[p + 4]? = some (.loop r) ∧
    ScanX w b p code x ((((((W.setCell ⟨w.heap.size, 0, none⟩ (.slice none 0 0)).setCell ⟨w.heap.size + 1, 0, none⟩ (.pointer (some ⟨b, 0, none⟩))).setCell ⟨w.heap.size + 2, 0, none⟩ (.iface 110 (.pointer (some ⟨k, 0, none⟩))))).drew).putObj (p + 4) (.loop r')) := by
  have hgt := h.gt
  have b2 := set_box h.r2 (.slice none 0 0)
  have K1 := Keep.of_setCell W ⟨w.heap.size, 0, none⟩ (.slice none 0 0)
  have z1 : (W.setCell ⟨w.heap.size, 0, none⟩ (.slice none 0 0)).heap.size = W.heap.size := by simp
  generalize W.setCell ⟨w.heap.size, 0, none⟩ (.slice none 0 0) = W1 at b2 K1 z1 ⊢
  have b3 := set_box ((K1.block (w.heap.size + 1) (by omega) (by show ¬ w.heap.size + 1 = w.heap.size; omega)).trans h.r3) (.pointer (some ⟨b, 0, none⟩))
  have K2 := Keep.of_setCell W1 ⟨w.heap.size + 1, 0, none⟩ (.pointer (some ⟨b, 0, none⟩))
  have z2 : (W1.setCell ⟨w.heap.size + 1, 0, none⟩ (.pointer (some ⟨b, 0, none⟩))).heap.size = W.heap.size := by simp [z1]
  generalize W1.setCell ⟨w.heap.size + 1, 0, none⟩ (.pointer (some ⟨b, 0, none⟩)) = W2 at b3 K2 z2 ⊢
  have K12 : Keep (fun k => k = w.heap.size ∨ k = w.heap.size + 1) W W2 := Keep.trans (K1.mono (fun _ _ q => .inl q)) K2 (fun _ _ q => .inr q)
  have b4 := set_box ((K12.block (w.heap.size + 2) (by omega) (by omega)).trans h.r4) (.iface 110 (.pointer (some ⟨k, 0, none⟩)))
  have K3 := Keep.of_setCell W2 ⟨w.heap.size + 2, 0, none⟩ (.iface 110 (.pointer (some ⟨k, 0, none⟩)))
  have z3 : (W2.setCell ⟨w.heap.size + 2, 0, none⟩ (.iface 110 (.pointer (some ⟨k, 0, none⟩)))).heap.size = W.heap.size := by simp [z2]
  generalize W2.setCell ⟨w.heap.size + 2, 0, none⟩ (.iface 110 (.pointer (some ⟨k, 0, none⟩))) = W3 at b4 K3 z3 ⊢
  have K123 : Keep (fun k => k = w.heap.size ∨ k = w.heap.size + 1 ∨ k = w.heap.size + 2) W W3.drew :=
    Keep.trans (Keep.trans (K12.mono (fun _ _ q => by omega)) K3 (fun _ _ q => by have : _ = w.heap.size + 2 := q; omega)) (Keep.of_drewN (S := fun _ => False) W3 1) (fun _ _ q => q.elim)
  have hloop : W3.drew.heap[p + 4]? = some (.loop r) := (K123.block _ hgt (by omega)).trans h.loop
  have K4 := Keep.putObj W3.drew (p + 4) (.loop r')
  have hne : k ≠ w.heap.size ∧ k ≠ w.heap.size + 1 ∧ k ≠ w.heap.size + 2 ∧ k ≠ p + 4 := by
    refine ⟨?_, ?_, ?_, ?_⟩ <;> (rintro rfl; first | (rw [h.r2] at hk; cases hk; done) | (rw [h.r3] at hk; cases hk; done) | (rw [h.r4] at hk; cases hk; done) | (rw [h.loop] at hk; cases hk; done))
  have hkl := (Array.getElem?_eq_some_iff.1 hk).1
  have z4 : W3.drew.heap.size = W.heap.size := z3
  have hlt : ∀ j, j < W.heap.size → j < W3.drew.heap.size := fun j hj => by rw [z4]; exact hj
  refine ⟨hloop, ⟨?_, ?_, ?_, ⟨k, ?_, ?_⟩, ?_, ⟨r', heap_busy hloop _, hst, hpe⟩⟩⟩
  · have K : Keep (fun k => k = w.heap.size ∨ k = w.heap.size + 1 ∨ k = w.heap.size + 2 ∨ k = p + 4) W (W3.drew.putObj (p + 4) (.loop r')) := Keep.trans (K123.mono (fun _ _ q => by omega)) K4 (fun _ _ q => by omega)
    exact h.below.trans (K.below h.below.size (fun i hi q => by omega))
  · refine (K4.block _ (hlt _ (by omega)) (by omega)).trans ((K3.block w.heap.size (by omega) (by show ¬ w.heap.size = w.heap.size + 2; omega)).trans ((K2.block w.heap.size (by omega) (by show ¬ w.heap.size = w.heap.size + 1; omega)).trans b2))
  · refine (K4.block _ (hlt _ (by omega)) (by omega)).trans ((K3.block (w.heap.size + 1) (by omega) (by show ¬ w.heap.size + 1 = w.heap.size + 2; omega)).trans b3)
  · exact (K4.block _ (hlt _ (by omega)) (by omega)).trans b4
  · exact (K4.block _ (hlt _ hkl) (by omega)).trans ((K123.block _ hkl (by omega)).trans hk)
  · exact (K4.block _ (hlt _ (by omega)) (by omega)).trans ((K123.block _ (by omega) (by omega)).trans h.mark)

set_option maxHeartbeats 2000000 in
set_option maxRecDepth 100000 in
/-- A round that takes a token. -/
theorem scan_round (w : World) (b p : Nat) (fn : FuncId) (D i j : Nat) (s : ByteArray) (sp : List (Nat × Nat)) (v : Value) (acc : List Tk) (W : World) (kind : Int) (text : ByteArray) (u0 u1 u7 u8 u9 u10 u11 u12 u13 u14 u15 u16 u17 u18 u19 u20 u21 u22 u23 u24 u25 u26 u27 u28 u29 u30 u31 u32 u33 : Value)
    (hb : w.heap.size + 3 ≤ b) (hp : b < p) (h : ScanM w b p (recOf fn #[u0, u1, .pointer (some ⟨w.heap.size, 0, none⟩), .pointer (some ⟨w.heap.size + 1, 0, none⟩), .pointer (some ⟨w.heap.size + 2, 0, none⟩), .pointer (some ⟨p, 0, none⟩), .pointer (some ⟨p + 1, 0, none⟩), u7, u8, u9, u10, u11, u12, u13, u14, u15, u16, u17, u18, u19, u20, u21, u22, u23, u24, u25, u26, u27, u28, u29, u30, u31, u32, u33] #[22, 23] scanParts.1 scanParts.2 D .ready none) acc W) (hA : ScanAt w.heap.size b s i sp v W) (hacc : acc.length < 40000) :
    YieldAt Fence.wide 4 Tryz.prog (p + 4) #[.agg #[.int .i64 kind, .string text, .int .i64 j], .nilIface] W fun e W' => e = .returned (.bool true) ∧
      ScanM w b p (recOf fn #[u0, u1, .pointer (some ⟨w.heap.size, 0, none⟩), .pointer (some ⟨w.heap.size + 1, 0, none⟩), .pointer (some ⟨w.heap.size + 2, 0, none⟩), .pointer (some ⟨p, 0, none⟩), .pointer (some ⟨p + 1, 0, none⟩), u7, u8, u9, u10, u11, u12, u13, u14, u15, u16, u17, u18, u19, u20, u21, u22, u23, u24, u25, u26, u27, u28, u29, u30, u31, u32, u33] #[22, 23] scanParts.1 scanParts.2 D .ready none) (acc ++ [⟨kind, text, j⟩]) W' ∧ ScanAt w.heap.size b s i sp v W' := by
  have hFn : ∀ f, (Fence.wide.inRound (p + 4)).fn f := fun _ => trivial
  refine yield_law h.loop rfl ?_
  conv => arg 4; whnf
  generalize hbd : scanParts.2 = body
  have HBD := Lib.hid hbd
  clear hbd
  rw [HBD.out] at h
  gi_wp2
  obtain ⟨r, hr, hst, hpe⟩ : ∃ r, recOf fn #[u0, u1, .pointer (some ⟨w.heap.size, 0, none⟩), .pointer (some ⟨w.heap.size + 1, 0, none⟩), .pointer (some ⟨w.heap.size + 2, 0, none⟩), .pointer (some ⟨p, 0, none⟩), .pointer (some ⟨p + 1, 0, none⟩), u7, u8, u9, u10, u11, u12, u13, u14, u15, u16, u17, u18, u19, u20, u21, u22, u23, u24, u25, u26, u27, u28, u29, u30, u31, u32, u33] #[22, 23] scanParts.1 body D .ready none = r ∧ r.state = .ready ∧ r.pending = none := ⟨_, rfl, rfl, rfl⟩
  rw [hr] at h ⊢
  clear hr
  have hgt := h.gt
  obtain ⟨i0, hi0, hz0, hz1, hz2⟩ := info_parts info_tk
  -- the token's variable, and the round begun
  have hKa : Keep (fun _ => False) W (W.alloc (.cells #[.int .i64 kind, .string text, .int .i64 j] 27)) := Keep.of_alloc W _
  have hTa := heap_alloc_new W (.cells #[.int .i64 kind, .string text, .int .i64 j] 27)
  have ha := h.keep hKa (fun _ q => q.elim) (fun _ _ q => q) (fun _ _ _ _ q => q) ((hKa.block _ hgt (fun q => q)).trans h.loop)
  have hAa := hA.keep hKa (fun q => q) (fun _ _ q => q)
  have hsa : (W.alloc (.cells #[.int .i64 kind, .string text, .int .i64 j] 27)).heap.size = W.heap.size + 1 := by simp
  generalize W.alloc (.cells #[.int .i64 kind, .string text, .int .i64 j] 27) = Wa at hKa hTa ha hAa hsa ⊢
  refine ⟨_, run_beginRound ha.loop hst, ?_⟩
  have hKb := Keep.putObj Wa (p + 4) (.loop { r with state := .busy })
  have hb1 := ha.putLoop hb hp { r with state := .busy }
  have hAb := hAa.putLoop ha hp (.loop { r with state := .busy })
  have hLb := hb1.loop
  have hTb : (Wa.putObj (p + 4) (.loop { r with state := .busy })).heap[W.heap.size]? = _ := (hKb.block _ (by omega) (by omega)).trans hTa
  have hsb : (Wa.putObj (p + 4) (.loop { r with state := .busy })).heap.size = W.heap.size + 1 := by simp [hsa]
  generalize Wa.putObj (p + 4) (.loop { r with state := .busy }) = Wb at hb1 hAb hTb hsb hLb hKb ⊢
  have t0 : Wb.cell? ⟨W.heap.size, 0, none⟩ = some (.int .i64 kind) := by simp [World.cell?, hTb]
  have t1 : Wb.cell? ⟨W.heap.size, 1, none⟩ = some (.string text) := by simp [World.cell?, hTb]
  have t2 : Wb.cell? ⟨W.heap.size, 2, none⟩ = some (.int .i64 j) := by simp [World.cell?, hTb]
  obtain ⟨vo, hvo, hrow, hnil⟩ := hb1.out
  have c0 : Wb.cell? ⟨p + 1, 0, none⟩ = some vo := by simp [World.cell?, hvo]
  have hbel := hb1.below.size
  have hnews := World.news_of_block (w := Wb.alloc (.cells #[.int .i64 kind, .string text, .int .i64 j] 27)) (cs := #[.int .i64 kind, .string text, .int .i64 j]) (t := 27) (fr := (0, 0)) (heap_alloc_new _ _)
  rw [hsb] at hnews
  have hnews := Lib.hid hnews
  clear hKa hTa ha hAa hsa hKb h hA
  rw [← HBD.out]
  conv => arg 4; whnf
  gi_wp2_with (gi_at_builtin; go_loud (refine wpListIn_append_own _ rfl _ _ 22 rfl w.heap.size 27 i0 _ 3 32 Tryz.underlying22 hi0 hz0 hz1 hz2 rfl (by decide) _ _ _ rfl (hrow.alloc _) ⟨W.heap.size + 1, 0, none⟩ 1 1 [.int .i64 kind, .string text, .int .i64 j] rfl rfl hnews.out (by simp [Value.oneCell']) (by unfold maxLen; omega) (by omega) (by simp <;> omega) ?_); go_loud (intro v' w3 hown' hg3 hnil3); go_loud (obtain ⟨g', cap', rfl⟩ := ownsRow_succ hown'); go_loud (have hP := ScanM.push (x := ⟨kind, text, j⟩) hb1 hvo hb hp hAb hown' hg3); go_loud (have c3 : w3.cell? ⟨p + 1, 0, none⟩ = some vo := by (simp [World.cell?, hP.1])); go_loud (have f3 : w3.frozen? ⟨p + 1, 0, none⟩ = false := by (simp [World.frozen?, hP.1])))
  refine ⟨_, _, run_endRound none hP.2.1.loop, rfl, ?_, ?_⟩
  · exact scanM_eq (loop_back hst hpe) (hP.2.1.putLoop hb hp _)
  · exact hP.2.2.putLoop hP.2.1 hp _
set_option maxHeartbeats 2000000 in
set_option maxRecDepth 100000 in
/-- A round that meets an error. -/
theorem scan_stop (w : World) (b p : Nat) (fn : FuncId) (D : Nat) (acc : List Tk) (W : World) (code : Int) (x k : Nat) (u0 u1 u7 u8 u9 u10 u11 u12 u13 u14 u15 u16 u17 u18 u19 u20 u21 u22 u23 u24 u25 u26 u27 u28 u29 u30 u31 u32 u33 : Value)
    (hb : w.heap.size + 3 ≤ b) (hp : b < p) (h : ScanM w b p (recOf fn #[u0, u1, .pointer (some ⟨w.heap.size, 0, none⟩), .pointer (some ⟨w.heap.size + 1, 0, none⟩), .pointer (some ⟨w.heap.size + 2, 0, none⟩), .pointer (some ⟨p, 0, none⟩), .pointer (some ⟨p + 1, 0, none⟩), u7, u8, u9, u10, u11, u12, u13, u14, u15, u16, u17, u18, u19, u20, u21, u22, u23, u24, u25, u26, u27, u28, u29, u30, u31, u32, u33] #[22, 23] scanParts.1 scanParts.2 D .ready none) acc W) (hk : W.heap[k]? = some (.cells #[.int .i64 x, .int .i64 code] 112 (0, 0))) :
    YieldAt Fence.wide 4 Tryz.prog (p + 4) #[.agg #[.int .i64 0, .string ⟨#[]⟩, .int .i64 0], .iface 110 (.pointer (some ⟨k, 0, none⟩))] W fun e W' => e = .returned (.bool false) ∧ ScanX w b p code x W' := by
  have hFn : ∀ f, (Fence.wide.inRound (p + 4)).fn f := fun _ => trivial
  refine yield_law h.loop rfl ?_
  conv => arg 4; whnf
  generalize hbd : scanParts.2 = body
  have HBD := Lib.hid hbd
  clear hbd
  rw [HBD.out] at h
  gi_wp2
  obtain ⟨r, hr, hst⟩ : ∃ r, recOf fn #[u0, u1, .pointer (some ⟨w.heap.size, 0, none⟩), .pointer (some ⟨w.heap.size + 1, 0, none⟩), .pointer (some ⟨w.heap.size + 2, 0, none⟩), .pointer (some ⟨p, 0, none⟩), .pointer (some ⟨p + 1, 0, none⟩), u7, u8, u9, u10, u11, u12, u13, u14, u15, u16, u17, u18, u19, u20, u21, u22, u23, u24, u25, u26, u27, u28, u29, u30, u31, u32, u33] #[22, 23] scanParts.1 body D .ready none = r ∧ r.state = .ready := ⟨_, rfl, rfl⟩
  rw [hr] at h
  clear hr
  have hgt := h.gt
  have hKa : Keep (fun _ => False) W (W.alloc (.cells #[.int .i64 0, .string ⟨#[]⟩, .int .i64 0] 27)) := Keep.of_alloc W _
  have hka := (hKa.block k (Array.getElem?_eq_some_iff.1 hk).1 (fun q => q)).trans hk
  have ha := h.keep hKa (fun _ q => q.elim) (fun _ _ q => q) (fun _ _ _ _ q => q) ((hKa.block _ hgt (fun q => q)).trans h.loop)
  generalize W.alloc (.cells #[.int .i64 0, .string ⟨#[]⟩, .int .i64 0] 27) = Wa at hKa hka ha ⊢
  refine ⟨_, run_beginRound ha.loop hst, ?_⟩
  have hb1 := ha.putLoop hb hp { r with state := .busy }
  have hkb := ((Keep.putObj Wa (p + 4) (.loop { r with state := .busy })).block k (Array.getElem?_eq_some_iff.1 hka).1 (fun q => by subst q; rw [ha.loop] at hka; cases hka)).trans hka
  generalize Wa.putObj (p + 4) (.loop { r with state := .busy }) = Wb at hb1 hkb ⊢
  have c2 : Wb.cell? ⟨w.heap.size, 0, none⟩ = some (.slice none 0 0) := by simp [World.cell?, hb1.r2]
  have c3 : Wb.cell? ⟨w.heap.size + 1, 0, none⟩ = some (.pointer none) := by simp [World.cell?, hb1.r3]
  have c4 : Wb.cell? ⟨w.heap.size + 2, 0, none⟩ = some .nilIface := by simp [World.cell?, hb1.r4]
  have c5 : Wb.cell? ⟨p, 0, none⟩ = some (.pointer (some ⟨b, 0, none⟩)) := by simp [World.cell?, hb1.nm]
  have f2 : Wb.frozen? ⟨w.heap.size, 0, none⟩ = false := by simp [World.frozen?, hb1.r2]
  have f3 : Wb.frozen? ⟨w.heap.size + 1, 0, none⟩ = false := by simp [World.frozen?, hb1.r3]
  have f4 : Wb.frozen? ⟨w.heap.size + 2, 0, none⟩ = false := by simp [World.frozen?, hb1.r4]
  have hmix : Tryz.prog.follows .mixedOrders = true := by kernel_rfl
  clear hKa hka ha h hk
  rw [← HBD.out]
  conv => arg 4; whnf
  gi_wp2
  gi_region_with_o (fail)
  all_goals gi_wp2
  all_goals
    have hP := fun r' => hb1.stop hb hp hkb r'
    exact ⟨_, _, run_endRound (some .ret) (hP { r with state := .done, pending := some .ret } rfl rfl).1, rfl, (hP { { r with state := .busy } with state := if (some Code.ret).isNone then .ready else .done, pending := some .ret } rfl rfl).2⟩
end Go.Proofs.YtmapaagdaojpaaaGreatDoor
