/- Words of my own over any program: small maps from bytes to bytes, made by a literal and asked by 'v, ok := m[c]'. -/
import Derived.Test.YtmapaagdaojpaaaGreatDoorWb
namespace Go.Proofs.YtmapaagdaojpaaaGreatDoor
open Go.RowKit

def entryOf (p : (Int × Int) × Nat) : MapEntry := { key := .int .u8 p.1.1, val := .int .u8 p.1.2, born := p.2 }
def mapObj (l : List (Int × Int)) : Obj := .map (l.zipIdx.map entryOf).toArray l.length
def byteFind (c : Int) : List (Int × Int) → Option Int
  | [] => none
  | p :: l => if c = p.1 then some p.2 else byteFind c l

theorem findNow_bytes (c : Int) : ∀ (l : List (Int × Int)) (j i : Nat), ((Instr.findNow (.int .u8) (.int .u8 c) ((l.zipIdx j).map entryOf) i).map (·.map (·.2))) = some ((byteFind c l).map (Value.int .u8))
  | [], j, i => rfl
  | p :: l, j, i => by
    simp only [List.zipIdx_cons, List.map_cons, Instr.findNow, entryOf, Instr.sameNow, if_pos, byteFind]
    by_cases h : c = p.1
    · subst h; simp
    · rw [if_neg h, show (c == p.1) = false from beq_eq_false_iff_ne.2 h]
      exact findNow_bytes c l (j + 1) (i + 1)
theorem findKey_bytes {P : Program} {kt : TypeId} (hk : P.underlying kt = some (.int .u8)) (c : Int) (l : List (Int × Int)) (w : World) :
    ∃ r, (Instr.findKey kt (.int .u8 c) ((l.zipIdx).map entryOf)).run P w = .ok r w ∧ r.map (·.2) = (byteFind c l).map (Value.int .u8) := by
  have h := findNow_bytes c l 0 0
  cases hf : Instr.findNow (.int .u8) (.int .u8 c) ((l.zipIdx).map entryOf) 0 with
  | none => rw [hf] at h; cases h
  | some r =>
    rw [hf] at h
    refine ⟨r, ?_, by simpa using h⟩
    simp [Instr.findKey, Sem.run_bind, run_underlying hk w, hf]

theorem run_checkKey_byte {P : Program} {kt : TypeId} (hk : P.underlying kt = some (.int .u8)) (b : Bool) (c : Int) (w : World) : (Instr.checkKey b 10000 kt (.int .u8 c)).run P w = .ok () w := by
  rw [show (10000 : Nat) = 9999 + 1 from rfl, Instr.checkKey]
  simp [Sem.run_bind, run_underlying hk w]

/-- 'v, ok := m[c]'. -/
theorem run_lookup_bytes {P : Program} {t kt et : TypeId} (ht : P.underlying t = some (.map kt et)) (hk : P.underlying kt = some (.int .u8)) (hz : ∀ w, (zeroValue et).run P w = .ok (.int .u8 0) w)
    (w : World) (r : Nat) (l : List (Int × Int)) (hr : w.heap[r]? = some (mapObj l)) (c : Int) :
    (Instr.lookup t (.map (some r)) (.int .u8 c) true).run P w = .ok (.tuple #[.int .u8 ((byteFind c l).getD 0), .bool (byteFind c l).isSome]) w := by
  obtain ⟨q, hq, he⟩ := findKey_bytes (P := P) hk c l w
  have hg : (getObj r).run P w = .ok (mapObj l) w := by simp [getObj, Sem.run, hr, mapObj]
  unfold Instr.lookup
  rw [Sem.run_bind, run_underlying ht w]
  simp only [Result.andThen_ok]
  rw [Sem.run_bind, hg]
  simp only [Result.andThen_ok, mapObj, Sem.run_bind, Sem.run_pure, run_checkKey_byte hk, hq]
  cases q with
  | none =>
    have : byteFind c l = none := by cases hb : byteFind c l with | none => rfl | some x => rw [hb] at he; cases he
    simp [this, hz]
  | some q =>
    cases hb : byteFind c l with
    | none => rw [hb] at he; cases he
    | some x => rw [hb] at he; simp only [Option.map_some, Option.some.injEq] at he; simp [he]

theorem wpList_lookup_bytes {P : Program} {ops : Array Oper} {rest : List Oper} {o : Oper} {a : Act} {w : World} {Q : Exit → Act → World → Prop} (hg : o.guard = none) (m x : Operand) (t : TypeId) (hop : o.op = .lookup t m x true)
    (kt et : TypeId) (ht : P.underlying t = some (.map kt et)) (hk : P.underlying kt = some (.int .u8)) (hz : ∀ w, (zeroValue et).run P w = .ok (.int .u8 0) w)
    (r : Nat) (l : List (Int × Int)) (hr : w.heap[r]? = some (mapObj l)) (c : Int) (hm : a.eval m = .map (some r)) (hx : a.eval x = .int .u8 c)
    (h : wpList P ops Q rest (a.put o.dst (.tuple #[.int .u8 ((byteFind c l).getD 0), .bool (byteFind c l).isSome])) w) : wpList P ops Q (o :: rest) a w :=
  wpList_plain hg fun K hK => by
    unfold Oper.wp execOp
    simp only [hop, hm, hx, Sem.run_bind, run_lookup_bytes ht hk hz w r l hr c, Result.andThen_ok, Sem.run_pure]
    exact hK _ _ h

theorem set_alloc (w : World) (o o' : Obj) : ({ w.alloc o with heap := (w.alloc o).heap.setIfInBounds w.heap.size o' } : World) = w.alloc o' := by
  simp only [World.alloc]
  congr 1
  apply Array.ext_getElem?
  intro i
  rw [Array.getElem?_setIfInBounds, Array.getElem?_push, Array.getElem?_push]
  by_cases h : w.heap.size = i
  · subst h; simp
  · rw [if_neg h, if_neg (Ne.symm h), if_neg (Ne.symm h)]
theorem mapObj_snoc (l : List (Int × Int)) (k v : Int) : mapObj (l ++ [(k, v)]) = .map ((l.zipIdx.map entryOf).toArray.push { key := .int .u8 k, val := .int .u8 v, born := l.length }) (l.length + 1) := by
  simp [mapObj, List.zipIdx_append, entryOf]
theorem byteFind_none {k : Int} {l : List (Int × Int)} (h : ∀ p ∈ l, k ≠ p.1) : byteFind k l = none := by
  induction l with
  | nil => rfl
  | cons p l ih =>
    rw [byteFind, if_neg (h p (by simp))]
    exact ih (fun q hq => h q (by simp [hq]))
/-- A new key into a map of bytes. -/
theorem run_mapUpdate_bytes {P : Program} {t kt et : TypeId} (ht : P.underlying t = some (.map kt et)) (hk : P.underlying kt = some (.int .u8))
    (w : World) (r : Nat) (l : List (Int × Int)) (hr : w.heap[r]? = some (mapObj l)) (k v : Int) (hn : byteFind k l = none) :
    (Instr.mapUpdate t (.map (some r)) (.int .u8 k) (.int .u8 v)).run P w = .ok () { w with heap := w.heap.setIfInBounds r (mapObj (l ++ [(k, v)])) } := by
  obtain ⟨q, hq, he⟩ := findKey_bytes (P := P) hk k l w
  rw [hn] at he
  have hq0 : q = none := by cases q with | none => rfl | some x => cases he
  subst hq0
  have hg : (getObj r).run P w = .ok (mapObj l) w := by simp [getObj, Sem.run, hr, mapObj]
  unfold Instr.mapUpdate
  rw [Sem.run_bind, run_underlying ht w]
  simp only [Result.andThen_ok]
  rw [Sem.run_bind, hg]
  simp only [Result.andThen_ok, mapObj, Sem.run_bind, run_checkKey_byte hk, hq]
  rw [show ({ w with heap := w.heap.setIfInBounds r (Obj.map ((l ++ [(k, v)]).zipIdx.map entryOf).toArray (l ++ [(k, v)]).length) } : World) = { w with heap := w.heap.setIfInBounds r (mapObj (l ++ [(k, v)])) } from rfl, mapObj_snoc]
  simp [setObj, Sem.run, hr, mapObj]
theorem wpList_insert_bytes {P : Program} {ops : Array Oper} {rest : List Oper} {o : Oper} {a : Act} {w : World} {Q : Exit → Act → World → Prop} (hg : o.guard = none) (m x y : Operand) (t : TypeId) (hop : o.op = .insert t m x y)
    (kt et : TypeId) (ht : P.underlying t = some (.map kt et)) (hk : P.underlying kt = some (.int .u8)) (l : List (Int × Int)) (k v : Int) (hm : a.eval m = .map (some w.heap.size)) (hx : a.eval x = .int .u8 k) (hy : a.eval y = .int .u8 v) (hn : byteFind k l = none)
    (h : wpList P ops Q rest (a.put o.dst undef) (w.alloc (mapObj (l ++ [(k, v)])))) : wpList P ops Q (o :: rest) a (w.alloc (mapObj l)) :=
  wpList_plain hg fun K hK => by
    unfold Oper.wp execOp
    simp only [hop, hm, hx, hy, Sem.run_bind, run_mapUpdate_bytes ht hk (w.alloc (mapObj l)) w.heap.size l (heap_alloc_new _ _) k v hn, Result.andThen_ok, Sem.run_pure, set_alloc]
    exact hK _ _ h
end Go.Proofs.YtmapaagdaojpaaaGreatDoor
