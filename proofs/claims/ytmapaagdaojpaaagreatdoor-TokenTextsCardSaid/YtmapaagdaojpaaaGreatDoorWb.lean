/- Words of my own over any program, more: a frame that leaves all blocks but some as they were. -/
import Derived.Test.YtmapaagdaojpaaaGreatDoorWa
import Derived.Deep.RegionHeld3
import Derived.Deep.AppendLies
import Derived.Deep.RegionLaw
import Derived.StillTailTactics
import Derived.Deep.DrawnRows
namespace Go.Proofs.YtmapaagdaojpaaaGreatDoor
open Go.RowKit

/-- A callee that leaves the world alone, met in a region that draws its order, behind draws. -/
theorem quiet_add {P : Program} {f : FuncId} {args : Array Value} {w : World} {n m : Nat} {v : Value} (h : ∀ w, Calls P f args w fun e w' => e = .returned v ∧ w' = w) :
    Calls P f args (w.drewN (n + m)) fun e w'' => e = .returned v ∧ ∃ k, w'' = w.drewN (n + k) := (h _).mono fun _ _ ⟨a, b⟩ => ⟨a, m, b⟩
theorem quiet_at {P : Program} {f : FuncId} {args : Array Value} {w : World} {n m : Nat} {v : Value} (h : Calls P f args (w.drewN (n + m)) fun e w' => e = .returned v ∧ w' = w.drewN (n + m)) :
    Calls P f args (w.drewN (n + m)) fun e w'' => e = .returned v ∧ ∃ k, w'' = w.drewN (n + k) := h.mono fun _ _ ⟨a, b⟩ => ⟨a, m, b⟩
theorem quiet_one {P : Program} {f : FuncId} {args : Array Value} {w : World} {m : Nat} {v : Value} (h : ∀ w, Calls P f args w fun e w' => e = .returned v ∧ w' = w) :
    Calls P f args (w.drewN m) fun e w'' => e = .returned v ∧ ∃ k, w'' = w.drewN k := (h _).mono fun _ _ ⟨a, b⟩ => ⟨a, m, b⟩

/-- All blocks but those of S are in w' as they were in w. -/
structure Keep (S : Nat → Prop) (w w' : World) : Prop where
  os : w'.os = w.os
  tape : w'.tape = w.tape
  output : w'.output = w.output
  size : w.heap.size ≤ w'.heap.size
  block : ∀ k, k < w.heap.size → ¬ S k → w'.heap[k]? = w.heap[k]?
section
variable {S T : Nat → Prop} {a b c w w' : World}
theorem Keep.refl (S : Nat → Prop) (w : World) : Keep S w w := ⟨rfl, rfl, rfl, Nat.le_refl _, fun _ _ _ => rfl⟩
/-- One step more, which may turn the blocks of T: below the first world's heap these are of S. -/
theorem Keep.trans (h : Keep S a b) (k : Keep T b c) (hT : ∀ i, i < a.heap.size → T i → S i) : Keep S a c :=
  ⟨k.os.trans h.os, k.tape.trans h.tape, k.output.trans h.output, Nat.le_trans h.size k.size, fun i hi hS => (k.block i (Nat.lt_of_lt_of_le hi h.size) (fun q => hS (hT i hi q))).trans (h.block i hi hS)⟩
theorem Keep.mono (h : Keep S a b) (hT : ∀ i, i < a.heap.size → S i → T i) : Keep T a b := ⟨h.os, h.tape, h.output, h.size, fun i hi n => h.block i hi (fun q => n (hT i hi q))⟩
theorem Keep.of_below (h : Below a.heap.size a b) : Keep S a b := ⟨h.os, h.tape, h.output, h.size, fun i hi _ => h.block i hi⟩
theorem Keep.of_grown {row : Option Nat} (h : a.grownBy b row) : Keep (fun k => row = some k) a b := ⟨h.os, h.tape, h.output, h.size, fun i hi n => h.block i hi (fun e => n e.symm)⟩
theorem Keep.of_setCell (w : World) (p : Addr) (u : Value) : Keep (fun k => k = p.block) w (w.setCell p u) :=
  ⟨rfl, rfl, rfl, by simp [World.setCell], fun i _ n => Below.heap_setCell _ _ _ _ n⟩
theorem Keep.of_alloc (w : World) (o : Obj) : Keep S w (w.alloc o) := Keep.of_below (below_alloc1 w o)
theorem Keep.of_drewN (w : World) (n : Nat) : Keep S w (w.drewN n) := ⟨rfl, rfl, rfl, Nat.le_refl _, fun _ _ _ => rfl⟩
theorem Keep.below (h : Keep S a b) {B : Nat} (hB : B ≤ a.heap.size) (hS : ∀ i, i < B → ¬ S i) : Below B a b := ⟨h.os, h.tape, h.output, h.size, fun i hi => h.block i (Nat.lt_of_lt_of_le hi hB) (hS i hi)⟩
theorem Keep.cell (h : Keep S w w') {p : Addr} (hp : p.block < w.heap.size) (hS : ¬ S p.block) : w'.cell? p = w.cell? p := World.cell?_of_block (w := w) (h.block p.block hp hS)
theorem Keep.owns (h : Keep S w w') {base : Nat} {e : TypeId} {size : Nat} {v : Value} {n : Nat} {xs : List Value} (ho : w.ownsRow base e size v n xs) (hS : ∀ k, v.ownBlock = some k → ¬ S k) : w'.ownsRow base e size v n xs := by
  obtain ⟨h1, h2⟩ := ho
  refine ⟨h1, ?_⟩
  rcases h2 with h2 | ⟨g, cap, cur, hv, hg, hh, r⟩
  · exact .inl h2
  · refine .inr ⟨g, cap, cur, hv, hg, ?_, r⟩
    rw [h.block g (by obtain ⟨hlt, _⟩ := Array.getElem?_eq_some_iff.1 hh; exact hlt) (hS g (by rw [hv]; rfl))]
    exact hh
theorem Keep.row (h : Keep S w w') {b : Nat} {t : TypeId} {n : Nat} {f : Nat → Value} (hr : w.rowIs b t n f) (hS : ¬ S b) : w'.rowIs b t n f := hr.of_block (h.block b hr.lt hS)
end
theorem block_far {W w1 : World} {o : Obj} {row : Option Nat} (h : ((W.alloc o).drew).grownBy w1 row) {b : Nat} (hp : b < W.heap.size) (hne : row ≠ some b) : w1.heap[b]? = W.heap[b]? :=
  (h.block b (by show b < (W.alloc o).heap.size; simp; omega) (fun e => hne e.symm)).trans (Below.heap_alloc W o b hp)
theorem frozen_far {W w1 : World} {o : Obj} {row : Option Nat} (h : ((W.alloc o).drew).grownBy w1 row) {p : Addr} (hp : p.block < W.heap.size) (hne : row ≠ some p.block) (hf : W.frozen? p = false) : w1.frozen? p = false :=
  (World.frozen?_of_block (w := W) (block_far h hp hne)).trans hf
theorem cell_far {W w1 : World} {o : Obj} {row : Option Nat} (h : ((W.alloc o).drew).grownBy w1 row) {p : Addr} (hp : p.block < W.heap.size) (hne : row ≠ some p.block) {u : Value} (hf : W.cell? p = some u) : w1.cell? p = some u :=
  (World.cell?_of_block (w := W) (block_far h hp hne)).trans hf
/-- Two results: a struct in memory, and a slot. -/
theorem results_row_tmp {P : Program} {fn : Func} {p q : Tmp} {ty : TypeId} (h : fn.results = #[.cell p ty, .tmp q]) (tmps : Array Value) (w : World) (g : Nat) (t : TypeId) (cs : Array Value) (fr : Nat × Nat) (d : TypeDesc) (x : Value)
    (hp : tmps.getD p undef = .pointer (some ⟨g, 0, none⟩)) (hq : tmps.getD q undef = x) (hg : w.heap[g]? = some (.cells cs t fr))
    (hu : P.underlying ty = some d) (hd : (match d with | .struct _ | .array _ _ => true | _ => false) = true) (hi : (P.info? ty).map (·.size) = some cs.size) :
    (results fn tmps).run P w = .ok (.tuple #[.agg cs, x]) w := by
  have hp' : tmps[p]?.getD undef = .pointer (some ⟨g, 0, none⟩) := by simpa using hp
  have hq' : tmps[q]?.getD undef = x := by simpa using hq
  simp [results, h, hp', hq', asAddr, run_loadVar_row w g t ty cs fr d hg hu hd hi]
/-- An owned row of another type's elements is no block of that kind. -/
theorem ownsRow_type {w : World} {base : Nat} {e : TypeId} {size : Nat} {v : Value} {n : Nat} {xs : List Value} (h : w.ownsRow base e size v n xs) {k : Nat} (hk : v.ownBlock = some k) : ∃ c, w.heap[k]? = some (.cells c e (0, 0)) := by
  rcases h.2 with ⟨rfl, _⟩ | ⟨g, cap, cur, rfl, _, hh, _⟩
  · cases hk
  · simp only [Value.ownBlock, Option.some.injEq] at hk
    subst hk; exact ⟨cur, hh⟩
end Go.Proofs.YtmapaagdaojpaaaGreatDoor
