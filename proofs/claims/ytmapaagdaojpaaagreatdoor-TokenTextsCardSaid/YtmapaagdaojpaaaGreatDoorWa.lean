/- Words of my own over any program: the alloc of a variable whose zero value is a known row; a slice literal; a small frame. -/
import Derived.WalkKit
import Derived.WalkSpells
import Derived.WalkLawsBesides
import Derived.Lib.Hide
import Derived.IntWalk
import Derived.BigQuiet
import Derived.Deep.QuietTactic
import Derived.Deep.OwnRows
import Derived.Laws.Rows
import Derived.Outline
namespace Go.Proofs.YtmapaagdaojpaaaGreatDoor
open Go.RowKit

theorem run_alloc_z {P : Program} {t : TypeId} {z : Array Value} (hz : ∀ w, (zeroValue t).run P w = .ok (.agg z) w) (w : World) (old : Value) :
    (Instr.alloc t true old).run P w = .ok (.pointer (some ⟨w.heap.size, 0, none⟩)) (w.alloc (.cells z t)) := by
  simp [Instr.alloc, Sem.run_bind, hz w, newVar, Value.cells, go_sem]

theorem wpList_alloc_z {P : Program} {ops : Array Oper} {rest : List Oper} {o : Oper} {a : Act} {w : World} {Q : Exit → Act → World → Prop} (hgd : o.guard = none) (t : TypeId) (ho : o.op = .alloc t)
    (z : Array Value) (hz : ∀ w, (zeroValue t).run P w = .ok (.agg z) w)
    (h : wpList P ops Q rest (a.put o.dst (.pointer (some ⟨w.heap.size, 0, none⟩))) (w.alloc (.cells z t))) : wpList P ops Q (o :: rest) a w :=
  wpList_plain hgd fun K hK => by
    unfold Oper.wp execOp
    simp only [ho, Sem.run_bind, run_alloc_z hz, Result.andThen_ok, Sem.run_pure]
    exact hK _ _ h

/-- A struct or an array built out of its parts, its cells known under a name. -/
theorem wpList_build_as {P : Program} {ops : Array Oper} {rest : List Oper} {o : Oper} {a : Act} {w : World} {Q : Exit → Act → World → Prop} (hgd : o.guard = none) (t : TypeId) (parts : Array (Nat × Operand)) (ho : o.op = .build t parts)
    (vals : List (Nat × Value)) (hv : (parts.map fun (i, x) => (i, a.eval x)).toList = vals) (cells : Array Value) (hb : P.built t vals = some cells)
    (h : wpList P ops Q rest (a.put o.dst (.agg cells)) w) : wpList P ops Q (o :: rest) a w := by
  subst hv
  refine wpList_build hgd t parts ho (by rw [hb]; rfl) ?_
  rw [hb]
  exact h

theorem setRow_alloc (w : World) (old cells : Array Value) (t : TypeId) : (w.alloc (.cells old t)).setRow w.heap.size cells = w.alloc (.cells cells t) := by
  simp only [World.setRow, World.alloc]
  congr 1
  apply Array.ext
  · simp
  · intro i h1 h2
    simp only [Array.getElem_modify, Array.getElem_push]
    by_cases h : w.heap.size = i
    · subst h; simp
    · have hi : i < w.heap.size := by simp at h1; omega
      simp [h, hi]

/-- A store of a whole row into the block that was just laid. -/
theorem wpList_store_new {P : Program} {ops : Array Oper} {rest : List Oper} {o : Oper} {a : Act} {w : World} {Q : Exit → Act → World → Prop} (hgd : o.guard = none) (ty : TypeId) (x y : Operand) (ho : o.op = .store ty x y)
    (cells : Array Value) (t : TypeId) (old : Array Value) (hx : a.eval x = .pointer (some ⟨w.heap.size, 0, none⟩)) (hy : a.eval y = .agg cells) (hi : (P.info? ty).map (·.size) = some cells.size)
    (hold : old.size = cells.size) (h1 : cells.all (·.oneCell') = true)
    (h : wpList P ops Q rest (a.put o.dst undef) (w.alloc (.cells cells t))) : wpList P ops Q (o :: rest) a (w.alloc (.cells old t)) := by
  refine wpList_store_row hgd ty x y ho w.heap.size cells hx hy t old (heap_alloc_new _ _) hi hold h1 ?_
  rw [setRow_alloc]
  exact h

theorem eval_put_same (a : Act) (d : Nat) (v : Value) (h : d < a.tmps.size) : (a.put (some d) v).eval (.tmp d) = v := by
  simp [Act.put, Act.eval, h]
theorem eval_put_other (a : Act) (d e : Nat) (v : Value) (h : d ≠ e) : (a.put (some d) v).eval (.tmp e) = a.eval (.tmp e) := by
  simp [Act.put, Act.eval, h]
theorem size_put (a : Act) (d : Option Nat) (v : Value) : (a.put d v).tmps.size = a.tmps.size := by
  cases d <;> simp [Act.put]

/-- 'x := T{..}', x a variable in memory: build, alloc, store. -/
theorem wpList_new_var {P : Program} {ops : Array Oper} {rest : List Oper} {o1 o2 o3 : Oper} {a : Act} {w : World} {Q : Exit → Act → World → Prop} (t : TypeId) (parts : Array (Nat × Operand)) (d1 d2 : Nat)
    (h1 : o1.op = .build t parts ∧ o1.dst = some d1 ∧ o1.guard = none) (h2 : o2.op = .alloc t ∧ o2.dst = some d2 ∧ o2.guard = none) (h3 : o3.op = .store t (.tmp d2) (.tmp d1) ∧ o3.dst = none ∧ o3.guard = none)
    (hd : d1 ≠ d2) (hs1 : d1 < a.tmps.size) (hs2 : d2 < a.tmps.size)
    (vals : List (Nat × Value)) (hv : (parts.map fun (i, x) => (i, a.eval x)).toList = vals) (cells : Array Value) (hb : P.built t vals = some cells)
    (z : Array Value) (hz : ∀ w, (zeroValue t).run P w = .ok (.agg z) w) (hi : (P.info? t).map (·.size) = some cells.size) (hold : z.size = cells.size) (hc : cells.all (·.oneCell') = true)
    (h : wpList P ops Q rest ((a.put (some d1) (.agg cells)).put (some d2) (.pointer (some ⟨w.heap.size, 0, none⟩))) (w.alloc (.cells cells t))) : wpList P ops Q (o1 :: o2 :: o3 :: rest) a w := by
  refine wpList_build_as h1.2.2 t parts h1.1 vals hv cells hb ?_
  refine wpList_alloc_z h2.2.2 t h2.1 z hz ?_
  rw [h1.2.1, h2.2.1]
  refine wpList_store_new h3.2.2 t (.tmp d2) (.tmp d1) h3.1 cells t z ?_ ?_ hi hold hc ?_
  · exact eval_put_same _ _ _ (by rwa [size_put])
  · rw [eval_put_other _ _ _ _ (Ne.symm hd), eval_put_same _ _ _ hs1]
  · rw [h3.2.1]; exact h

theorem below_alloc1 (w : World) (o : Obj) : Below w.heap.size w (w.alloc o) := (Below.refl _ _).alloc (Nat.le_refl _) o
theorem below_drewN {B : Nat} {a w : World} (h : Below B a w) (n : Nat) : Below B a (w.drewN n) := h.trans ⟨rfl, rfl, rfl, Nat.le_refl _, fun _ _ => rfl⟩

end Go.Proofs.YtmapaagdaojpaaaGreatDoor
