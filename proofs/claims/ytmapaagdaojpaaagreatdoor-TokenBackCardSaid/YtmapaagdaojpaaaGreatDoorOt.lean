/- A slice of tokens among the arguments: opened; read again as it was. -/
import Derived.Test.YtmapaagdaojpaaaGreatDoorFw
import Derived.Test.YtmapaagdaojpaaaGreatDoorCard0
import Derived.Deep.Slices
import Derived.Deep.Strs
import Derived.WideKeyArgs
namespace Go.Proofs.YtmapaagdaojpaaaGreatDoor
open Go.ChangeShapes Go.WideShapes Go.ChangeAt Go.RowKit Go.ChangeMaps Go.Deep

theorem laidOut : laidOutB Tryz.prog = true := by kernel_rfl
theorem cells_tok : Tryz.prog.cellsOf 27 = 3 := by kernel_rfl
theorem cells_int : Tryz.prog.cellsOf 3 = 1 := by kernel_rfl
theorem cells_str : Tryz.prog.cellsOf 9 = 1 := by kernel_rfl
section
variable {H : Type} {enc : TypeId × Value → H}
instance : Inhabited Ti := ⟨⟨0, ByteArray.empty, 0⟩⟩
set_option maxRecDepth 100000 in
theorem tokens_of {W : World} {base : Nat} {v : Value} {d : DataW H} {p : List MemPlace} (hv : Value.okWide Tryz.prog W .any base 22 v) (h : DataW.Trod enc Tryz.prog W 0 (fun _ => true) true 22 v d p) :
    ∃ (l : List Ti) (ao : Option Addr) (cap : Nat), v = .slice ao l.length cap ∧ TiRow ao l W := by
  obtain ⟨a0, len, cap, rfl⟩ := okWide_slice Tryz.underlying22 hv
  obtain ⟨fuel, hf⟩ := h
  rcases open_slice Tryz.underlying22 hf with ⟨hcs, _⟩ | ⟨a, len', cap', m, n, D, Pl, hcs, hb, hl, hm, hmm, _, hx⟩
  · simp [Value.cells] at hcs
    obtain ⟨rfl, rfl, rfl⟩ := hcs
    exact ⟨[], none, 0, rfl, fun q => absurd rfl q⟩
  · simp [Value.cells] at hcs
    obtain ⟨rfl, rfl, rfl⟩ := hcs
    have hlm : len ≤ m := by rw [hmm]; split <;> omega
    have each : ∀ i, i < len → ∃ q : Ti, W.cell? (a.add (i * 3)) = some (.int .i64 q.kind) ∧ W.cell? (a.add (i * 3 + 1)) = some (.string q.text) ∧ W.cell? (a.add (i * 3 + 2)) = some (.int .i64 q.at_) := by
      intro i hi
      obtain ⟨cs', h1, h2⟩ := hx i (by omega)
      rw [cells_tok] at h1
      obtain ⟨_, hlen, hcell⟩ := World.cells?_some h1
      obtain ⟨y0, y1, y2, k, _, _, u0, u1, u2⟩ := trod_struct3 Tryz.underlying27 h2
      match cs', hlen with
      | [v0, v1, v2], _ =>
        simp only [cells_int, cells_str, List.drop, List.take] at u0 u1 u2
        obtain ⟨q, e0, _, _⟩ := DataW.trod_int Tryz.underlying3 u0
        obtain ⟨s, e1, _, _⟩ := DataW.trod_string Tryz.underlying9 u1
        obtain ⟨p, e2, _, _⟩ := DataW.trod_int Tryz.underlying3 u2
        simp only [List.cons.injEq, and_true] at e0 e1 e2
        subst e0; subst e1; subst e2
        have c0 := hcell 0 (by omega)
        have c1 := hcell 1 (by omega)
        have c2 := hcell 2 (by omega)
        rw [add_add] at c0 c1 c2
        exact ⟨⟨q, s, p⟩, by simpa using c0, by simpa using c1, by simpa using c2⟩
    obtain ⟨I, hI⟩ := choose_lt each
    refine ⟨(List.range len).map I, some a, cap, by simp, fun hne => ?_⟩
    have hl0 : 0 < len := by
      rcases Nat.eq_zero_or_pos len with e | e
      · subst e; exact absurd rfl hne
      · exact e
    obtain ⟨xb, xo, spot⟩ := a
    have hspot : spot = none := by simpa [Addr.add] using World.cell?_spot (hI 0 hl0).1
    subst hspot
    refine ⟨xb, xo, rfl, World.block_lt_of_cell? W _ (hI 0 hl0).1, fun k hk => ?_⟩
    have hk' : k < len := by simpa using hk
    obtain ⟨g0, g1, g2⟩ := hI k hk'
    rw [Addr.add_lit] at g0 g1 g2
    have eI : ((List.range len).map I)[k] = I k := by simp
    rw [eI]
    exact ⟨g0, by simpa [Nat.add_assoc] using g1, by simpa [Nat.add_assoc] using g2⟩
set_option maxRecDepth 100000 in
theorem bytes_of {W : World} {base : Nat} {v : Value} {d : DataW H} {p : List MemPlace} (hv : Value.okWide Tryz.prog W .any base 37 v) (h : DataW.Trod enc Tryz.prog W 0 (fun _ => true) true 37 v d p) :
    ∃ (l : List UInt8) (ao : Option Addr) (cap : Nat), v = .slice ao l.length cap ∧ ByRow ao l W := by
  obtain ⟨a0, len, cap, rfl⟩ := okWide_slice Tryz.underlying37 hv
  obtain ⟨fuel, hf⟩ := h
  rcases open_slice1 Tryz.underlying37 (by kernel_rfl) hf with ⟨hcs, _⟩ | ⟨a, len', cap', m, n, V, D, Pl, hcs, hb, hl, hm, hmm, _, hx⟩
  · simp [Value.cells] at hcs
    obtain ⟨rfl, rfl, rfl⟩ := hcs
    exact ⟨[], none, 0, rfl, fun q => absurd rfl q⟩
  · simp [Value.cells] at hcs
    obtain ⟨rfl, rfl, rfl⟩ := hcs
    have hlm : len ≤ m := by rw [hmm]; split <;> omega
    have each : ∀ i, i < len → ∃ q : UInt8, W.cell? (a.add i) = some (.int .u8 (q.toNat : Int)) := by
      intro i hi
      obtain ⟨h1, h2⟩ := hx i (by omega)
      obtain ⟨q, e0, _, hw⟩ := DataW.trod_int Tryz.underlying5 h2
      simp only [List.cons.injEq, and_true] at e0
      rw [e0] at h1
      have hq : 0 ≤ q ∧ q ≤ 255 := by
        have h8 : IntKind.u8.min ≤ q ∧ q ≤ IntKind.u8.max := by simpa [Lit.wf] using hw
        exact h8
      refine ⟨q.toNat.toUInt8, ?_⟩
      have e : (q.toNat.toUInt8).toNat = q.toNat := by
        show q.toNat % 256 = _
        omega
      rw [e, show ((q.toNat : Nat) : Int) = q by omega]
      exact h1
    obtain ⟨I, hI⟩ := choose_lt each
    refine ⟨(List.range len).map I, some a, cap, by simp, fun hne => ?_⟩
    have hl0 : 0 < len := by
      rcases Nat.eq_zero_or_pos len with e | e
      · subst e; exact absurd rfl hne
      · exact e
    obtain ⟨xb, xo, spot⟩ := a
    have hspot : spot = none := by simpa [Addr.add] using World.cell?_spot (hI 0 hl0)
    subst hspot
    refine ⟨xb, xo, rfl, World.block_lt_of_cell? W _ (hI 0 hl0), fun k hk => ?_⟩
    have hk' : k < len := by simpa using hk
    have g0 := hI k hk'
    rw [Addr.add_lit] at g0
    have eI : ((List.range len).map I)[k] = I k := by simp
    rw [eI]
    exact g0
/-- An argument that nothing has turned is read as it was. -/
theorem stays_of {t : TypeId} {W W' : World} {v : Value} {d : DataW H} {p : List MemPlace} (hr : Tryz.prog.readableRec t = true) (hrow : t < Tryz.prog.types.size) (h : DataW.Trod enc Tryz.prog W 0 (fun _ => true) true t v d p)
    (hlt : ∀ x ∈ p, x.block < W.heap.size) (hb : Below W.heap.size W W') : DataW.Trod enc Tryz.prog W' 0 (fun b => decide (b < W.heap.size)) true t v d p :=
  WideElems.Trod_stays (P := Tryz.prog) laidOut hr hrow h (fun x hx => hb.same (hlt x hx)) (fun x hx => by simpa using hlt x hx)
end
end Go.Proofs.YtmapaagdaojpaaaGreatDoor
