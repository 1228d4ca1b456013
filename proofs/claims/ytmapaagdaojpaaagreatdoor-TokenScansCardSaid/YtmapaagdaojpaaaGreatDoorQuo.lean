/- The scanner's quotation. -/
import Derived.Test.YtmapaagdaojpaaaGreatDoorSkip
import Derived.Test.YtmapaagdaojpaaaGreatDoorEsc
import Derived.Test.YtmapaagdaojpaaaGreatDoorPx
import Derived.Lib.UnsafeStr
import Derived.Lib.BufferRead
namespace Go.Proofs.YtmapaagdaojpaaaGreatDoor
open Go.RowKit

theorem info_byte : (Tryz.prog.info? 5).map (fun i => (i.zero, i.size, i.bytes)) = some (some (.int .u8 0), 1, 1) := by kernel_rfl
theorem zero_byte (w : World) : (zeroValue 5).run Tryz.prog w = .ok (.int .u8 0) w := by kernel_rfl
theorem escs_find (mark c : Int) : byteFind c (escs mark) = escF mark c := by
  unfold escs escF
  split <;> rfl
section
variable (b : Nat) (s : ByteArray) (i : Nat) (v : Value) (W : World) (h1 : i ≤ 40000) (hw : ScanRow b s i v W)
include h1 hw
theorem next0 : Calls Tryz.prog 112 #[.pointer (some ⟨b, 0, none⟩), .int .i64 0] W fun e w' => e = .returned (.int .u8 (bt s i)) ∧ ∃ k, w' = W.drewN k := next_any b s i 0 v W h1 (by omega) hw
theorem next1 : Calls Tryz.prog 112 #[.pointer (some ⟨b, 0, none⟩), .int .i64 1] W fun e w' => e = .returned (.int .u8 (bt s (i + 1))) ∧ ∃ k, w' = W.drewN k := next_any b s i 1 v W h1 (by omega) hw
theorem next2 : Calls Tryz.prog 112 #[.pointer (some ⟨b, 0, none⟩), .int .i64 2] W fun e w' => e = .returned (.int .u8 (bt s (i + 2))) ∧ ∃ k, w' = W.drewN k := next_any b s i 2 v W h1 (by omega) hw
end

def tokCells (k : Int) (t : ByteArray) (a : Int) : Array Value := #[.int .i64 k, .string t, .int .i64 a]
/-- The worlds of quotation's loop: block n0 the result, n0 + 1 the fault, n0 + 2 the map. -/
structure QuoW (B b : Nat) (s : ByteArray) (fr : Nat) (mark : Int) (sp : List (Nat × Nat)) (v : Value) (w : World) (i : Nat) (out : List UInt8) (v8 : Value) (wr : World) : Prop where
  scan : ScanAt B b s i sp v wr
  tok : wr.heap[w.heap.size]? = some (.cells #[.int .i64 0, .string ⟨#[]⟩, .int .i64 0] 27 (0, 0))
  flt : wr.heap[w.heap.size + 1]? = some (.cells #[.int .i64 fr, .int .i64 41] 112 (0, 0))
  mp : wr.heap[w.heap.size + 1 + 1]? = some (mapObj (escs mark))
  own : wr.ownsRow (w.heap.size + 1 + 1 + 1) 5 1 v8 out.length (Lib.byteCells out)
  kept : ScanKept b v w wr
  few : out.length ≤ i
section
variable {B b : Nat} {s : ByteArray} {fr : Nat} {mark : Int} {sp : List (Nat × Nat)} {v : Value} {w : World} {i : Nat} {out : List UInt8} {v8 : Value} {wr : World}
theorem QuoW.drewN (h : QuoW B b s fr mark sp v w i out v8 wr) (k : Nat) : QuoW B b s fr mark sp v w i out v8 (wr.drewN k) := ⟨h.scan.drewN k, h.tok, h.flt, h.mp, h.own, h.kept.drewN k, h.few⟩
theorem QuoW.set (h : QuoW B b s fr mark sp v w i out v8 wr) (hb : b < w.heap.size) (j : Nat) (h1 : j ≤ s.size) (h2 : i ≤ j) : QuoW B b s fr mark sp v w j out v8 (wr.setCell ⟨b, 1, none⟩ (.int .i64 j)) := by
  have hk := Keep.of_setCell wr ⟨b, 1, none⟩ (.int .i64 j)
  have hsz : w.heap.size + 1 + 1 < wr.heap.size := by obtain ⟨q, _⟩ := Array.getElem?_eq_some_iff.1 h.mp; exact q
  refine ⟨h.scan.set1 j h1 h2, (hk.block _ (by omega) (by show ¬ _ = b; omega)).trans h.tok, (hk.block _ (by omega) (by show ¬ _ = b; omega)).trans h.flt, (hk.block _ (by omega) (by show ¬ _ = b; omega)).trans h.mp, ?_, h.kept.set 1 _, by have := h.few; omega⟩
  exact hk.owns h.own (fun k hkk e => by have := (h.own.lt k hkk).1; have e2 : k = b := e; omega)
theorem QuoW.push {w1 : World} {o : Obj} {gg cap : Nat} (h : QuoW B b s fr mark sp v w i out v8 wr) (hb : b < w.heap.size) (hi : out.length < i) (x : UInt8) {c : Int} (hc : c = x.toNat)
    (h1 : w1.ownsRow (w.heap.size + 1 + 1 + 1) 5 1 (.slice (some ⟨gg, 0, none⟩) (out.length + 1) cap) (out.length + 1) (Lib.byteCells out ++ [.int .u8 c])) (hg : (wr.alloc o).grownBy w1 v8.ownBlock) :
    QuoW B b s fr mark sp v w i (out ++ [x]) (.slice (some ⟨gg, 0, none⟩) (out.length + 1) cap) w1 := by
  have hsz : w.heap.size + 1 + 1 < wr.heap.size := by obtain ⟨q, _⟩ := Array.getElem?_eq_some_iff.1 h.mp; exact q
  subst hc
  have hfar : ∀ k, k < w.heap.size + 1 + 1 + 1 → w1.heap[k]? = wr.heap[k]? := fun k hk =>
    (hg.block k (by show k < (wr.alloc o).heap.size; simp; omega) (fun e => by have := (h.own.lt k e.symm).1; omega)).trans (Below.heap_alloc wr o k (by omega))
  have hK : Keep (fun k => v8.ownBlock = some k) wr w1 := Keep.trans (Keep.of_alloc (S := fun k => v8.ownBlock = some k) wr o) (Keep.of_grown hg) (fun _ _ q => q)
  have hown : ∀ k, v8.ownBlock = some k → w.heap.size + 1 + 1 + 1 ≤ k := fun k q => (h.own.lt k q).1
  refine ⟨⟨hK.row h.scan.row (fun q => by have := hown _ q; omega), hK.owns h.scan.own (fun k hk q => ?_), h.scan.le, h.scan.few⟩, (hfar _ (by omega)).trans h.tok, (hfar _ (by omega)).trans h.flt, (hfar _ (by omega)).trans h.mp, ?_, ?_, by simp; omega⟩
  · obtain ⟨c, hc⟩ := ownsRow_type h.scan.own hk
    obtain ⟨d, hd⟩ := ownsRow_type h.own q
    rw [hc] at hd; cases hd
  · rw [List.length_append, List.length_singleton, show Lib.byteCells (out ++ [x]) = Lib.byteCells out ++ [.int .u8 x.toNat] by simp [Lib.byteCells]]
    exact h1
  · exact Keep.trans h.kept hK (fun k hk q => by have := hown k q; omega)
end

theorem quo_start {B b : Nat} {s : ByteArray} {at_ : Nat} {sp : List (Nat × Nat)} {v : Value} {w W : World} {mark : Int} {n : Nat} (hw : ScanAt B b s at_ sp v w)
    (hW : (((w.alloc (.cells #[.int .i64 0, .string ⟨#[]⟩, .int .i64 0] 27)).drewN n).alloc (.cells #[.int .i64 at_, .int .i64 41] 112)).alloc (mapObj (escs mark)) = W) :
    QuoW B b s at_ mark sp v w at_ [] (.slice none 0 0) W := by
  subst hW
  have hb : Below w.heap.size w ((((w.alloc (.cells #[.int .i64 0, .string ⟨#[]⟩, .int .i64 0] 27)).drewN n).alloc (.cells #[.int .i64 at_, .int .i64 41] 112)).alloc (mapObj (escs mark))) :=
    (((below_drewN (below_alloc1 _ _) _).alloc (by simp) _).alloc (by simp; omega) _)
  have hk : ScanKept b v w ((((w.alloc (.cells #[.int .i64 0, .string ⟨#[]⟩, .int .i64 0] 27)).drewN n).alloc (.cells #[.int .i64 at_, .int .i64 41] 112)).alloc (mapObj (escs mark))) := Keep.of_below hb
  refine ⟨⟨World.rowIs.of_block hw.row (hb.block _ hw.row.lt), ?_, hw.le, hw.few⟩, ?_, ?_, ?_, World.ownsRow_nil _ _ _ _, hk, by simp⟩
  · exact (Keep.of_below (S := fun _ => False) hb).owns hw.own (fun _ _ q => q)
  · refine (Below.heap_alloc _ _ _ (by simp; omega)).trans ((Below.heap_alloc _ _ _ (by simp)).trans (heap_alloc_new w _))
  · refine (Below.heap_alloc _ _ _ (by simp)).trans ?_
    have := heap_alloc_new ((w.alloc (.cells #[.int .i64 0, .string ⟨#[]⟩, .int .i64 0] 27)).drewN n) (.cells #[.int .i64 at_, .int .i64 41] 112)
    simpa using this
  · have := heap_alloc_new (((w.alloc (.cells #[.int .i64 0, .string ⟨#[]⟩, .int .i64 0] 27)).drewN n).alloc (.cells #[.int .i64 at_, .int .i64 41] 112)) (mapObj (escs mark))
    simpa using this

def zTok : Array Value := #[.int .i64 0, .string ⟨#[]⟩, .int .i64 0]
theorem zTok_cells : zTok.all (·.oneCell') = true := by simp [zTok, Value.oneCell']
theorem tok_cells (k : Int) (t : ByteArray) (a : Int) : (tokCells k t a).all (·.oneCell') = true := by simp [tokCells, Value.oneCell']
theorem info_tok (cs : Array Value) (h : cs.size = 3) : (Tryz.prog.info? 27).map (·.size) = some cs.size := by rw [h]; kernel_rfl
/-- An error with its block, and no token. -/
def ErrPost (b : Nat) (v : Value) (w : World) (fr : Nat) (code : Int) (e : Ending) (w' : World) : Prop :=
  ∃ k, e = .returned (.tuple #[.agg zTok, .iface 110 (.pointer (some ⟨k, 0, none⟩))]) ∧ w.heap.size ≤ k ∧ w'.heap[k]? = some (.cells #[.int .i64 fr, .int .i64 code] 112 (0, 0)) ∧ ScanKept b v w w'
/-- A token, and the scanner behind it. -/
def TokPost (B b : Nat) (s : ByteArray) (sp : List (Nat × Nat)) (v : Value) (w : World) (kind : Int) (text : ByteArray) (fr fin : Nat) (e : Ending) (w' : World) : Prop :=
  e = .returned (.tuple #[.agg #[.int .i64 kind, .string text, .int .i64 fr], .nilIface]) ∧ ScanAt B b s fin sp v w' ∧ ScanKept b v w w'
def QuoPost (B b : Nat) (s : ByteArray) (fr : Nat) (mark : Int) (sp : List (Nat × Nat)) (v : Value) (w : World) (r : QuoR) (e : Ending) (w' : World) : Prop :=
  match r with
  | .bad => ErrPost b v w fr 41 e w'
  | .ok out fin => if mark = 39 then TokPost B b s sp v w 1 ⟨out.toArray⟩ fr fin e w'
    else if out.length < 1 ∨ 60 < out.length then ErrPost b v w fr 43 e w' else TokPost B b s sp v w 2 ⟨out.toArray⟩ fr fin e w'
theorem keep_setRow {b : Nat} {v : Value} {w wr : World} (h : ScanKept b v w wr) (g : Nat) (hg : w.heap.size ≤ g) (cs : Array Value) : ScanKept b v w (wr.setRow g cs) :=
  Keep.trans (T := fun k => k = g) h ⟨rfl, rfl, rfl, by simp, fun k _ n => setRow_other _ _ _ _ n⟩ (fun i hi e => by omega)
theorem quo_fault {B b : Nat} {s : ByteArray} {fr : Nat} {mark : Int} {sp : List (Nat × Nat)} {v : Value} {w : World} {i : Nat} {out : List UInt8} {v8 : Value} {wr : World} {R : QuoR}
    (hR : R = .bad) (h : QuoW B b s fr mark sp v w i out v8 wr) : QuoPost B b s fr mark sp v w R (.returned (.tuple #[.agg zTok, .iface 110 (.pointer (some ⟨w.heap.size + 1, 0, none⟩))])) (wr.setRow w.heap.size zTok) := by
  subst hR
  exact ⟨_, rfl, by omega, (setRow_other _ _ _ _ (by omega)).trans h.flt, keep_setRow h.kept _ (Nat.le_refl _) _⟩
theorem esc_byte {m : Int} (h0 : 0 ≤ m) (h1 : m ≤ 92) : m = ((m.toNat.toUInt8).toNat : Int) := by
  have : m.toNat % 256 = m.toNat := Nat.mod_eq_of_lt (by omega)
  simp [this]; omega
theorem or_hex_fin : ∀ a c : Fin 16, bits BinOp.or IntKind.u8 ((a.val : Int) * 16) (c.val : Int) = ((hex2 a.val c.val).toNat : Int) := by decide +kernel
theorem or_hex {a c : Int} (a0 : 0 ≤ a) (a1 : a ≤ 15) (c0 : 0 ≤ c) (c1 : c ≤ 15) : bits BinOp.or IntKind.u8 (a * 16) c = ((hex2 a c).toNat : Int) := by
  obtain ⟨a, rfl⟩ := Int.eq_ofNat_of_zero_le a0
  obtain ⟨c, rfl⟩ := Int.eq_ofNat_of_zero_le c0
  exact or_hex_fin ⟨a, by omega⟩ ⟨c, by omega⟩
theorem quo_slice {B b : Nat} {s : ByteArray} {fr : Nat} {mark : Int} {sp : List (Nat × Nat)} {v : Value} {w : World} {i : Nat} {out : List UInt8} {v8 : Value} {wr : World} (h : QuoW B b s fr mark sp v w i out v8 wr) :
    ∃ A cap, v8 = .slice A out.length cap := by
  rcases h.own.2 with ⟨e, h0⟩ | ⟨g, cap, cur, e, _⟩
  · exact ⟨none, 0, by rw [e, h0]⟩
  · exact ⟨_, _, e⟩
theorem quo_text {B b : Nat} {s : ByteArray} {fr : Nat} {mark : Int} {sp : List (Nat × Nat)} {v : Value} {w : World} {i : Nat} {out : List UInt8} {v8 : Value} {wr : World} (h : QuoW B b s fr mark sp v w i out v8 wr) :
    (convert 37 9 v8).run Tryz.prog wr = .ok (.string ⟨out.toArray⟩) wr := by
  rcases h.own.2 with ⟨e, h0⟩ | ⟨g, cap, cur, e, _⟩
  · rw [e, List.length_eq_zero_iff.1 h0]
    exact Lib.run_convert_nil_bytes wr 37 9 5 0 Tryz.underlying37 Tryz.underlying5 Tryz.underlying9
  · have hc := h.own.cells (g := g) (by rw [e]; rfl)
    rw [e]
    exact run_convert_bytes_back wr 37 9 5 ⟨g, 0, none⟩ cap out Tryz.underlying37 Tryz.underlying5 Tryz.underlying9 (fun j hj => hc j _ (by simp [Lib.byteCells, hj]))
theorem tok_done {B b : Nat} {s : ByteArray} {fr : Nat} {mark : Int} {sp : List (Nat × Nat)} {v : Value} {w : World} {i : Nat} {out : List UInt8} {v8 : Value} {wr : World} (h : QuoW B b s fr mark sp v w i out v8 wr)
    (hb : b < w.heap.size) (hv : ∀ k, v.ownBlock = some k → k < w.heap.size) (cs : Array Value) : ScanAt B b s i sp v (wr.setRow w.heap.size cs) ∧ ScanKept b v w (wr.setRow w.heap.size cs) := by
  have hk : Keep (fun k => k = w.heap.size) wr (wr.setRow w.heap.size cs) := ⟨rfl, rfl, rfl, by simp, fun k _ n => setRow_other _ _ _ _ n⟩
  refine ⟨⟨hk.row h.scan.row (by omega), hk.owns h.scan.own (fun k e q => by have := hv k e; omega), h.scan.le, h.scan.few⟩, keep_setRow h.kept _ (Nat.le_refl _) _⟩
theorem quo_chars {B b : Nat} {s : ByteArray} {fr : Nat} {mark : Int} {sp : List (Nat × Nat)} {v : Value} {w : World} {i : Nat} {out : List UInt8} {v8 : Value} {wr : World} {R : QuoR}
    (hR : R = .ok out i) (hm : mark = 39) (h : QuoW B b s fr mark sp v w i out v8 wr) (hv : ∀ k, v.ownBlock = some k → k < w.heap.size) (hb : b < w.heap.size) :
    QuoPost B b s fr mark sp v w R (.returned (.tuple #[.agg (tokCells 1 ⟨out.toArray⟩ fr), .nilIface])) (wr.setRow w.heap.size (tokCells 1 ⟨out.toArray⟩ fr)) := by
  subst hR
  unfold QuoPost
  dsimp only
  rw [if_pos hm]
  exact ⟨rfl, tok_done h hb hv _⟩
theorem quo_word {B b : Nat} {s : ByteArray} {fr : Nat} {mark : Int} {sp : List (Nat × Nat)} {v : Value} {w : World} {i : Nat} {out : List UInt8} {v8 : Value} {wr : World} {R : QuoR}
    (hR : R = .ok out i) (hm : ¬ mark = 39) (hl : ¬ (out.length < 1 ∨ 60 < out.length)) (h : QuoW B b s fr mark sp v w i out v8 wr) (hv : ∀ k, v.ownBlock = some k → k < w.heap.size) (hb : b < w.heap.size) :
    QuoPost B b s fr mark sp v w R (.returned (.tuple #[.agg (tokCells 2 ⟨out.toArray⟩ fr), .nilIface])) (wr.setRow w.heap.size (tokCells 2 ⟨out.toArray⟩ fr)) := by
  subst hR
  unfold QuoPost
  dsimp only
  rw [if_neg hm, if_neg hl]
  exact ⟨rfl, tok_done h hb hv _⟩
theorem tok_alloc {B b : Nat} {s : ByteArray} {fr : Nat} {mark : Int} {sp : List (Nat × Nat)} {v : Value} {w : World} {i : Nat} {out : List UInt8} {v8 : Value} {wr : World} (h : QuoW B b s fr mark sp v w i out v8 wr) (o : Obj) :
    (wr.alloc o).heap[w.heap.size]? = some (.cells #[.int .i64 0, .string ⟨#[]⟩, .int .i64 0] 27 (0, 0)) :=
  (Below.heap_alloc wr o _ (by obtain ⟨q, _⟩ := Array.getElem?_eq_some_iff.1 h.tok; exact q)).trans h.tok
theorem quo_long {B b : Nat} {s : ByteArray} {fr : Nat} {mark : Int} {sp : List (Nat × Nat)} {v : Value} {w : World} {i : Nat} {out : List UInt8} {v8 : Value} {wr : World} {R : QuoR}
    (hR : R = .ok out i) (hm : ¬ mark = 39) (hl : out.length < 1 ∨ 60 < out.length) (h : QuoW B b s fr mark sp v w i out v8 wr) :
    QuoPost B b s fr mark sp v w R (.returned (.tuple #[.agg zTok, .iface 110 (.pointer (some ⟨wr.heap.size, 0, none⟩))])) ((wr.alloc (.cells #[.int .i64 fr, .int .i64 43] 112)).setRow w.heap.size zTok) := by
  subst hR
  unfold QuoPost
  dsimp only
  rw [if_neg hm, if_pos hl]
  have hlt : w.heap.size < wr.heap.size := by obtain ⟨q, _⟩ := Array.getElem?_eq_some_iff.1 h.tok; exact q
  refine ⟨_, rfl, by omega, (setRow_other _ _ _ _ (by omega)).trans (heap_alloc_new _ _), keep_setRow (Keep.trans h.kept (Keep.of_alloc (S := fun _ => False) _ _) (fun _ _ q => False.elim q)) _ (Nat.le_refl _) _⟩
theorem scan_meas2 {b : Nat} {s : ByteArray} {x y : Nat} {v v' : Value} {w w' : World} (h : ScanRow b s x v w) (h' : ScanRow b s y v' w') (hxy : x < y) (hx : x ≤ s.size) : s.size + 1 - atOf b w' < s.size + 1 - atOf b w := by
  rw [h.atOf, h'.atOf]; omega

set_option maxHeartbeats 8000000 in
set_option maxRecDepth 100000 in
theorem quotation_any (B b : Nat) (s : ByteArray) (at_ : Nat) (sp : List (Nat × Nat)) (v : Value) (w : World) (hs : s.size ≤ 40000) (hw : ScanAt B b s at_ sp v w) (hlt : at_ < s.size)
    (_hB : B ≤ w.heap.size) (_hbB : B ≤ b) (mk : Int) (hmk : bt s at_ = mk) (hq : mk = 39 ∨ mk = 34) (R : QuoR) (n : Nat) (hn : s.size - (at_ + 1) < n) (hR : Hid (quoN s mk n (at_ + 1) [] = R)) :
    Calls Tryz.prog 111 #[.pointer (some ⟨b, 0, none⟩)] w (QuoPost B b s at_ mk sp v w R) := by
  clear _hB _hbB
  have hc0 := hw.row.c0
  have hc1 := hw.row.c1
  have hf1 := hw.row.frozen 1
  have hle := hw.le
  have hbs := hw.row.lt
  have hl : decide (at_ < s.size) = true := by simpa using hlt
  have HB : Hid (((s[at_]'hlt).toNat : Int) = mk) := (bt_in hlt).trans hmk
  clear hmk
  have hE := fun w => escapes_any ((s[at_]'hlt).toNat : Int) w
  go_enter Tryz.func111, Tryz.ntmps111
  go_wp2
  go_quiet (fail)
  go_wp2_with fail
  refine (hE _).mono ?_
  rintro e w' ⟨rfl, rfl⟩
  clear hE
  generalize hW : World.alloc _ (mapObj _) = W
  have hQ := quo_start hw hW
  clear hW hc0 hc1 hf1
  have hc1 := hQ.scan.row.c1
  have hf1 := hQ.scan.row.frozen 1
  rw [HB.out] at hQ
  rw [HB.out]
  clear HB
  have hQ2 := hQ.set hbs (at_ + 1) hlt (by omega)
  go_wp2_with fail
  generalize hW2 : World.setCell _ _ _ = W2
  have hQ3 : QuoW B b s at_ mk sp v w (at_ + 1) [] (.slice none 0 0) W2 := by rw [← hW2]; exact hQ2
  clear hW2 hQ2 hQ hc1 hf1
  go_loopw [8] (fun v8 wr => ∃ i out n' vv, vv = v8 ∧ QuoW B b s at_ mk sp v w i out vv wr ∧ at_ < i ∧ s.size - i < n' ∧ Hid (quoN s mk n' i out = R) ∧ out.length < i) (fun _ wr => s.size + 1 - atOf b wr)
  case atStart => exact ⟨at_ + 1, [], n, _, rfl, hQ3, by omega, hn, hR, by simp⟩
  case round =>
    obtain ⟨i, out, n', vv, hvv, hQ, hi, hn', hR', hfew⟩ := hrel
    subst hvv
    clear hQ3
    have hle := hQ.scan.le
    have hN := next0 b s i v wr (by omega) hQ.scan.row
    obtain ⟨n', rfl⟩ : ∃ k, n' = k + 1 := ⟨n' - 1, by omega⟩
    have hc0 := hQ.scan.row.c0
    have hc1 := hQ.scan.row.c1
    have hf1 := hQ.scan.row.frozen 1
    have b0 := bt_lo s i
    have b1 := bt_hi s i
    by_cases hm : bt s i = mk
    · have nm : (bt s i != mk) = false := by simpa using hm
      have HM := Lib.hid hm
      clear hm
      go_wp2_with fail
      refine hN.mono ?_
      rintro e w1 ⟨rfl, k1, rfl⟩
      clear hN
      have hi2 : i < s.size := by
        rcases Nat.lt_or_ge i s.size with q | q
        · exact q
        · have := bt_out q; have := HM.out; omega
      have hQ9 := (hQ.drewN k1).set hbs (i + 1) (by omega) (by omega)
      have HX : Hid (R = .ok out (i + 1)) := quo_end hR' HM.out
      have hvl := fun k e => (hw.own.lt k e).2
      have hcv : (convert 37 9 vv).run Tryz.prog ((wr.drewN k1).setCell ⟨b, 1, none⟩ (.int .i64 ((i : Int) + 1))) = .ok (.string ⟨out.toArray⟩) ((wr.drewN k1).setCell ⟨b, 1, none⟩ (.int .i64 ((i : Int) + 1))) := quo_text hQ9
      obtain ⟨A, cap, rfl⟩ := quo_slice hQ
      by_cases h39 : mk = 39
      · have n39 : (mk == 39) = true := beq_iff_eq.2 h39
        have H39 := Lib.hid h39
        clear h39
        go_wp2_with (refine wpList_store_row rfl 27 (.tmp 2) (.tmp 168) rfl w.heap.size (tokCells 1 ⟨out.toArray⟩ at_) rfl rfl 27 zTok hQ9.tok (info_tok _ rfl) rfl (tok_cells _ _ _) ?_)
        refine bodyPost_ret (v := .tuple #[.agg (tokCells 1 ⟨out.toArray⟩ at_), .nilIface]) ?_ rfl ?_
        · exact results_row_tmp rfl _ _ w.heap.size 27 (tokCells 1 ⟨out.toArray⟩ at_) (0, 0) _ _ rfl rfl (setRow_heap _ _ _ _ _ _ (by exact hQ9.tok)) Tryz.underlying27 rfl (info_tok _ rfl)
        exact quo_chars HX.out H39.out hQ9 hvl hbs
      · have n39 : (mk == 39) = false := beq_eq_false_iff_ne.2 h39
        have H39 := Lib.hid h39
        clear h39
        by_cases hl1 : out.length < 1
        · have g2 : ((out.length : Int) < 1) := by omega
          go_wp2_with (refine wpList_store_row rfl 27 (.tmp 2) (.tmp 177) rfl w.heap.size zTok rfl rfl 27 zTok (tok_alloc hQ9 _) (info_tok _ rfl) rfl zTok_cells ?_)
          refine bodyPost_ret (v := .tuple #[.agg zTok, .iface 110 (.pointer (some ⟨((wr.drewN k1).setCell ⟨b, 1, none⟩ (.int .i64 ((i : Int) + 1))).heap.size, 0, none⟩))]) ?_ rfl ?_
          · exact results_row_tmp rfl _ _ w.heap.size 27 zTok (0, 0) _ _ rfl (by simp) (setRow_heap _ _ _ _ _ _ (tok_alloc hQ9 _)) Tryz.underlying27 rfl (info_tok _ rfl)
          exact quo_long HX.out H39.out (by omega) hQ9
        · by_cases hl60 : 60 < out.length
          · have g2 : ¬ ((out.length : Int) < 1) := by omega
            have g3 : ((60 : Int) < out.length) := by omega
            go_wp2_with (refine wpList_store_row rfl 27 (.tmp 2) (.tmp 177) rfl w.heap.size zTok rfl rfl 27 zTok (tok_alloc hQ9 _) (info_tok _ rfl) rfl zTok_cells ?_)
            refine bodyPost_ret (v := .tuple #[.agg zTok, .iface 110 (.pointer (some ⟨((wr.drewN k1).setCell ⟨b, 1, none⟩ (.int .i64 ((i : Int) + 1))).heap.size, 0, none⟩))]) ?_ rfl ?_
            · exact results_row_tmp rfl _ _ w.heap.size 27 zTok (0, 0) _ _ rfl (by simp) (setRow_heap _ _ _ _ _ _ (tok_alloc hQ9 _)) Tryz.underlying27 rfl (info_tok _ rfl)
            exact quo_long HX.out H39.out (by omega) hQ9
          · have g2 : ¬ ((out.length : Int) < 1) := by omega
            have g3 : ¬ ((60 : Int) < out.length) := by omega
            go_wp2_with (refine wpList_store_row rfl 27 (.tmp 2) (.tmp 185) rfl w.heap.size (tokCells 2 ⟨out.toArray⟩ at_) rfl rfl 27 zTok hQ9.tok (info_tok _ rfl) rfl (tok_cells _ _ _) ?_)
            refine bodyPost_ret (v := .tuple #[.agg (tokCells 2 ⟨out.toArray⟩ at_), .nilIface]) ?_ rfl ?_
            · exact results_row_tmp rfl _ _ w.heap.size 27 (tokCells 2 ⟨out.toArray⟩ at_) (0, 0) _ _ rfl rfl (setRow_heap _ _ _ _ _ _ (by exact hQ9.tok)) Tryz.underlying27 rfl (info_tok _ rfl)
            exact quo_word HX.out H39.out (by omega) hQ9 hvl hbs
    · have nm : (bt s i != mk) = true := by simpa using hm
      have HM := Lib.hid hm
      clear hm
      by_cases hge : i < s.size
      · have g1 : decide (s.size ≤ i) = false := by simp; omega
        by_cases h32 : bt s i < 32
        · have HX : Hid (R = .bad) := quo_bad hR' HM.out (.inr (.inl h32))
          go_wp2_with fail
          refine hN.mono ?_
          rintro e w1 ⟨rfl, k1, rfl⟩
          go_wp2_with fail
          refine (next0 b s i v _ (by omega) (hQ.drewN k1).scan.row).mono ?_
          rintro e w1 ⟨rfl, k2, rfl⟩
          go_wp2_with fail
          go_quiet (fail)
          go_wp2_with (refine wpList_store_row rfl 27 (.tmp 2) (.tmp 72) rfl w.heap.size zTok rfl rfl 27 zTok hQ.tok (info_tok _ rfl) rfl zTok_cells ?_)
          refine bodyPost_ret (v := .tuple #[.agg zTok, .iface 110 (.pointer (some ⟨w.heap.size + 1, 0, none⟩))]) ?_ rfl ?_
          · exact results_row_tmp rfl _ _ w.heap.size 27 zTok (0, 0) _ _ rfl rfl (setRow_heap _ _ _ _ _ _ (by exact hQ.tok)) Tryz.underlying27 rfl (info_tok _ rfl)
          exact quo_fault (HX.out) (hQ.drewN _)
        · by_cases h126 : 126 < bt s i
          · have HX : Hid (R = .bad) := quo_bad hR' HM.out (.inr (.inr h126))
            go_wp2_with fail
            refine hN.mono ?_
            rintro e w1 ⟨rfl, k1, rfl⟩
            go_wp2_with fail
            refine (next0 b s i v _ (by omega) (hQ.drewN k1).scan.row).mono ?_
            rintro e w1 ⟨rfl, k2, rfl⟩
            go_wp2_with fail
            go_quiet (fail)
            go_wp2_with (refine wpList_store_row rfl 27 (.tmp 2) (.tmp 72) rfl w.heap.size zTok rfl rfl 27 zTok hQ.tok (info_tok _ rfl) rfl zTok_cells ?_)
            refine bodyPost_ret (v := .tuple #[.agg zTok, .iface 110 (.pointer (some ⟨w.heap.size + 1, 0, none⟩))]) ?_ rfl ?_
            · exact results_row_tmp rfl _ _ w.heap.size 27 zTok (0, 0) _ _ rfl rfl (setRow_heap _ _ _ _ _ _ (by exact hQ.tok)) Tryz.underlying27 rfl (info_tok _ rfl)
            exact quo_fault (HX.out) (hQ.drewN _)
          · have HNB : Hid (¬ (s.size ≤ i ∨ bt s i < 32 ∨ 126 < bt s i)) := by show ¬ _; omega
            by_cases h92 : bt s i = 92
            · have n92 : (bt s i != 92) = false := by simpa using h92
              have H92 := Lib.hid h92
              clear h92
              obtain ⟨i0, hi0, hz0, hz1, hz2⟩ := info_parts info_byte
              go_wp2_with fail
              refine hN.mono ?_
              rintro e w1 ⟨rfl, k1, rfl⟩
              go_wp2_with fail
              refine (next0 b s i v _ (by omega) (hQ.drewN k1).scan.row).mono ?_
              rintro e w1 ⟨rfl, k2, rfl⟩
              go_wp2_with fail
              go_quiet (fail)
              go_wp2_with fail
              generalize hW3 : World.setCell _ _ _ = W3
              have hQ3 : QuoW B b s at_ mk sp v w (i + 1) out vv W3 := by rw [← hW3]; exact (hQ.drewN _).set hbs (i + 1) (by omega) (by omega)
              clear hW3 hc0 hc1 hf1 hN nm n92 b0 b1 h32 h126 g1
              have hc0 := hQ3.scan.row.c0
              have hc1 := hQ3.scan.row.c1
              have hf1 := hQ3.scan.row.frozen 1
              have hown := hQ3.own
              have hsz : w.heap.size + 1 + 1 + 1 ≤ W3.heap.size := by obtain ⟨q, _⟩ := Array.getElem?_eq_some_iff.1 hQ3.mp; omega
              have hbf := escs_find mk (bt s (i + 1))
              refine (next0 b s (i + 1) v _ (by omega) hQ3.scan.row).mono ?_
              rintro e w1 ⟨rfl, k3, rfl⟩
              cases he : escF mk (bt s (i + 1)) with
              | some m =>
                have HE := Lib.hid he
                rw [he] at hbf
                obtain ⟨hne, hm0, hm1⟩ := escF_in he
                clear he
                have hi2 : i + 1 < s.size := by
                  rcases Nat.lt_or_ge (i + 1) s.size with q | q
                  · exact q
                  · exact absurd (bt_out q) hne
                have hl2 : ((i : Int) + 1 < (s.size : Int)) := by omega
                clear hne
                go_wp2_with (refine wpList_lookup_bytes rfl (.tmp 91) (.tmp 92) 104 rfl 5 5 Tryz.underlying104 Tryz.underlying5 zero_byte (w.heap.size + 1 + 1) (escs mk) hQ3.mp (bt s (i + 1)) rfl rfl ?_)
                go_quiet (fail)
                go_wp2_with (at_builtin; refine wpList_append_lies _ (by rfl) _ _ _ (by rfl) (w.heap.size + 1 + 1 + 1) 5 i0 _ 1 1 Tryz.underlying37 hi0 hz0 hz1 hz2 (by rfl) (by omega) _ out.length (Lib.byteCells out) (by rfl) (hown.alloc _) ⟨W3.heap.size, 0, none⟩ 1 1 [.int .u8 m] (by rfl) (by rfl) (World.news_of_block (cs := #[.int .u8 m]) (t := 5) (fr := (0, 0)) (heap_alloc_new _ _)) (by simp [Value.oneCell']) (by omega) (by unfold maxLen; omega) (by omega) (by simp; omega) _ (by rfl) ?_; intro gg cap w3 hown1 hgrow hat hlt9; have hP := QuoW.push (hQ3.drewN _) hbs (by omega) m.toNat.toUInt8 (esc_byte hm0 hm1) hown1 hgrow; have q1 := hP.scan.row.c1; have q2 := hP.scan.row.frozen 1; clear hgrow hown1)
                have hP2 := hP.set hbs (i + 2) (by omega) (by omega)
                go_roundw
                case rel => exact ⟨i + 2, _, n', _, rfl, hP2, by omega, by omega, quo_esc hR' HM.out HNB.out H92.out HE.out, by simp; omega⟩
                case measure => exact scan_meas2 hQ.scan.row hP2.scan.row (by omega) hle
              | none =>
                have HE := Lib.hid he
                rw [he] at hbf
                clear he
                by_cases h34 : mk = 34
                · have HX : Hid (R = .bad) := quo_noesc hR' HM.out HNB.out H92.out HE.out (.inl h34)
                  have n34 : (mk == 34) = true := beq_iff_eq.2 h34
                  clear h34
                  go_wp2_with (refine wpList_lookup_bytes rfl (.tmp 91) (.tmp 92) 104 rfl 5 5 Tryz.underlying104 Tryz.underlying5 zero_byte (w.heap.size + 1 + 1) (escs mk) hQ3.mp (bt s (i + 1)) rfl rfl ?_)
                  go_quiet (fail)
                  go_wp2_with fail
                  refine (next1 b s (i + 1) v _ (by omega) (hQ3.drewN _).scan.row).mono ?_
                  rintro e w1 ⟨rfl, k4, rfl⟩
                  go_wp2_with fail
                  refine (hexadecimal_any (bt s (i + 2)) (bt_lo _ _) (bt_hi _ _) _).mono ?_
                  rintro e w1 ⟨rfl, rfl⟩
                  go_wp2_with fail
                  refine (next2 b s (i + 1) v _ (by omega) (hQ3.drewN _).scan.row).mono ?_
                  rintro e w1 ⟨rfl, k5, rfl⟩
                  go_wp2_with fail
                  refine (hexadecimal_any (bt s (i + 3)) (bt_lo _ _) (bt_hi _ _) _).mono ?_
                  rintro e w1 ⟨rfl, rfl⟩
                  go_wp2_with (refine wpList_store_row rfl 27 (.tmp 2) (.tmp 139) rfl w.heap.size zTok rfl rfl 27 zTok hQ3.tok (info_tok _ rfl) rfl zTok_cells ?_)
                  refine bodyPost_ret (v := .tuple #[.agg zTok, .iface 110 (.pointer (some ⟨w.heap.size + 1, 0, none⟩))]) ?_ rfl ?_
                  · exact results_row_tmp rfl _ _ w.heap.size 27 zTok (0, 0) _ _ rfl rfl (setRow_heap _ _ _ _ _ _ (by exact hQ3.tok)) Tryz.underlying27 rfl (info_tok _ rfl)
                  exact quo_fault HX.out (hQ3.drewN _)
                · have n34 : (mk == 34) = false := beq_eq_false_iff_ne.2 h34
                  have H34 := Lib.hid h34
                  clear h34
                  by_cases h120 : bt s (i + 1) = 120
                  · have n120 : (bt s (i + 1) != 120) = false := by simpa using h120
                    have H120 := Lib.hid h120
                    clear h120
                    cases ha : hexv (bt s (i + 2)) with
                    | none =>
                      have HX : Hid (R = .bad) := quo_noesc hR' HM.out HNB.out H92.out HE.out (.inr (.inr (.inl ha)))
                      go_wp2_with (refine wpList_lookup_bytes rfl (.tmp 91) (.tmp 92) 104 rfl 5 5 Tryz.underlying104 Tryz.underlying5 zero_byte (w.heap.size + 1 + 1) (escs mk) hQ3.mp (bt s (i + 1)) rfl rfl ?_)
                      go_quiet (fail)
                      go_wp2_with fail
                      refine (next1 b s (i + 1) v _ (by omega) (hQ3.drewN _).scan.row).mono ?_
                      rintro e w1 ⟨rfl, k4, rfl⟩
                      go_wp2_with fail
                      refine (hexadecimal_any (bt s (i + 2)) (bt_lo _ _) (bt_hi _ _) _).mono ?_
                      rintro e w1 ⟨rfl, rfl⟩
                      go_wp2_with fail
                      refine (next2 b s (i + 1) v _ (by omega) (hQ3.drewN _).scan.row).mono ?_
                      rintro e w1 ⟨rfl, k5, rfl⟩
                      go_wp2_with fail
                      refine (hexadecimal_any (bt s (i + 3)) (bt_lo _ _) (bt_hi _ _) _).mono ?_
                      rintro e w1 ⟨rfl, rfl⟩
                      go_wp2_with (refine wpList_store_row rfl 27 (.tmp 2) (.tmp 139) rfl w.heap.size zTok rfl rfl 27 zTok hQ3.tok (info_tok _ rfl) rfl zTok_cells ?_)
                      refine bodyPost_ret (v := .tuple #[.agg zTok, .iface 110 (.pointer (some ⟨w.heap.size + 1, 0, none⟩))]) ?_ rfl ?_
                      · exact results_row_tmp rfl _ _ w.heap.size 27 zTok (0, 0) _ _ rfl rfl (setRow_heap _ _ _ _ _ _ (by exact hQ3.tok)) Tryz.underlying27 rfl (info_tok _ rfl)
                      exact quo_fault HX.out (hQ3.drewN _)
                    | some a =>
                      have HA := Lib.hid ha
                      obtain ⟨a0, a1⟩ := hexv_lo ha
                      cases hb : hexv (bt s (i + 3)) with
                      | none =>
                        have HX : Hid (R = .bad) := quo_noesc hR' HM.out HNB.out H92.out HE.out (.inr (.inr (.inr hb)))
                        go_wp2_with (refine wpList_lookup_bytes rfl (.tmp 91) (.tmp 92) 104 rfl 5 5 Tryz.underlying104 Tryz.underlying5 zero_byte (w.heap.size + 1 + 1) (escs mk) hQ3.mp (bt s (i + 1)) rfl rfl ?_)
                        go_quiet (fail)
                        go_wp2_with fail
                        refine (next1 b s (i + 1) v _ (by omega) (hQ3.drewN _).scan.row).mono ?_
                        rintro e w1 ⟨rfl, k4, rfl⟩
                        go_wp2_with fail
                        refine (hexadecimal_any (bt s (i + 2)) (bt_lo _ _) (bt_hi _ _) _).mono ?_
                        rintro e w1 ⟨rfl, rfl⟩
                        go_wp2_with fail
                        refine (next2 b s (i + 1) v _ (by omega) (hQ3.drewN _).scan.row).mono ?_
                        rintro e w1 ⟨rfl, k5, rfl⟩
                        go_wp2_with fail
                        refine (hexadecimal_any (bt s (i + 3)) (bt_lo _ _) (bt_hi _ _) _).mono ?_
                        rintro e w1 ⟨rfl, rfl⟩
                        go_wp2_with (refine wpList_store_row rfl 27 (.tmp 2) (.tmp 139) rfl w.heap.size zTok rfl rfl 27 zTok hQ3.tok (info_tok _ rfl) rfl zTok_cells ?_)
                        refine bodyPost_ret (v := .tuple #[.agg zTok, .iface 110 (.pointer (some ⟨w.heap.size + 1, 0, none⟩))]) ?_ rfl ?_
                        · exact results_row_tmp rfl _ _ w.heap.size 27 zTok (0, 0) _ _ rfl rfl (setRow_heap _ _ _ _ _ _ (by exact hQ3.tok)) Tryz.underlying27 rfl (info_tok _ rfl)
                        exact quo_fault HX.out (hQ3.drewN _)
                      | some c =>
                        have HC := Lib.hid hb
                        obtain ⟨c0, c1⟩ := hexv_lo hb
                        go_wp2_with (refine wpList_lookup_bytes rfl (.tmp 91) (.tmp 92) 104 rfl 5 5 Tryz.underlying104 Tryz.underlying5 zero_byte (w.heap.size + 1 + 1) (escs mk) hQ3.mp (bt s (i + 1)) rfl rfl ?_)
                        go_quiet (fail)
                        go_wp2_with fail
                        refine (next1 b s (i + 1) v _ (by omega) (hQ3.drewN _).scan.row).mono ?_
                        rintro e w1 ⟨rfl, k4, rfl⟩
                        go_wp2_with fail
                        refine (hexadecimal_any (bt s (i + 2)) (bt_lo _ _) (bt_hi _ _) _).mono ?_
                        rintro e w1 ⟨rfl, rfl⟩
                        go_wp2_with fail
                        refine (next2 b s (i + 1) v _ (by omega) (hQ3.drewN _).scan.row).mono ?_
                        rintro e w1 ⟨rfl, k5, rfl⟩
                        go_wp2_with fail
                        refine (hexadecimal_any (bt s (i + 3)) (bt_lo _ _) (bt_hi _ _) _).mono ?_
                        rintro e w1 ⟨rfl, rfl⟩
                        have hor := or_hex a0 a1 c0 c1
                        have hi4 : i + 3 < s.size := by
                          rcases Nat.lt_or_ge (i + 3) s.size with q | q
                          · exact q
                          · exact absurd (bt_out q) (hexv_in HC.out)
                        go_wp2_with (at_builtin; refine wpList_append_lies _ (by rfl) _ _ _ (by rfl) (w.heap.size + 1 + 1 + 1) 5 i0 _ 1 1 Tryz.underlying37 hi0 hz0 hz1 hz2 (by rfl) (by omega) _ out.length (Lib.byteCells out) (by rfl) (hown.alloc _) ⟨W3.heap.size, 0, none⟩ 1 1 [.int .u8 (hex2 a c).toNat] (by rfl) (by rfl) (World.news_of_block (cs := #[.int .u8 (hex2 a c).toNat]) (t := 5) (fr := (0, 0)) (heap_alloc_new _ _)) (by simp [Value.oneCell']) (by omega) (by unfold maxLen; omega) (by omega) (by simp; omega) _ (by rfl) ?_; intro gg cap w3 hown1 hgrow hat hlt9; have hP := QuoW.push (hQ3.drewN _) hbs (by omega) (hex2 a c) rfl hown1 hgrow; have q1 := hP.scan.row.c1; have q2 := hP.scan.row.frozen 1; clear hgrow hown1)
                        have hP2 := (hP.set hbs (i + 3) (by omega) (by omega)).set hbs (i + 4) (by omega) (by omega)
                        go_roundw
                        case rel => exact ⟨i + 4, _, n', _, rfl, hP2, by omega, by omega, quo_hex hR' HM.out HNB.out H92.out HE.out H34.out H120.out HA.out HC.out, by simp; omega⟩
                        case measure => exact scan_meas2 hQ.scan.row hP2.scan.row (by omega) hle
                  · have HX : Hid (R = .bad) := quo_noesc hR' HM.out HNB.out H92.out HE.out (.inr (.inl h120))
                    have n120 : (bt s (i + 1) != 120) = true := by simpa using h120
                    clear h120
                    go_wp2_with (refine wpList_lookup_bytes rfl (.tmp 91) (.tmp 92) 104 rfl 5 5 Tryz.underlying104 Tryz.underlying5 zero_byte (w.heap.size + 1 + 1) (escs mk) hQ3.mp (bt s (i + 1)) rfl rfl ?_)
                    go_quiet (fail)
                    go_wp2_with fail
                    refine (next1 b s (i + 1) v _ (by omega) (hQ3.drewN _).scan.row).mono ?_
                    rintro e w1 ⟨rfl, k4, rfl⟩
                    go_wp2_with fail
                    refine (hexadecimal_any (bt s (i + 2)) (bt_lo _ _) (bt_hi _ _) _).mono ?_
                    rintro e w1 ⟨rfl, rfl⟩
                    go_wp2_with fail
                    refine (next2 b s (i + 1) v _ (by omega) (hQ3.drewN _).scan.row).mono ?_
                    rintro e w1 ⟨rfl, k5, rfl⟩
                    go_wp2_with fail
                    refine (hexadecimal_any (bt s (i + 3)) (bt_lo _ _) (bt_hi _ _) _).mono ?_
                    rintro e w1 ⟨rfl, rfl⟩
                    go_wp2_with (refine wpList_store_row rfl 27 (.tmp 2) (.tmp 139) rfl w.heap.size zTok rfl rfl 27 zTok hQ3.tok (info_tok _ rfl) rfl zTok_cells ?_)
                    refine bodyPost_ret (v := .tuple #[.agg zTok, .iface 110 (.pointer (some ⟨w.heap.size + 1, 0, none⟩))]) ?_ rfl ?_
                    · exact results_row_tmp rfl _ _ w.heap.size 27 zTok (0, 0) _ _ rfl rfl (setRow_heap _ _ _ _ _ _ (by exact hQ3.tok)) Tryz.underlying27 rfl (info_tok _ rfl)
                    exact quo_fault HX.out (hQ3.drewN _)
            · have n92 : (bt s i != 92) = true := by simpa using h92
              have H92 := Lib.hid h92
              clear h92
              obtain ⟨i0, hi0, hz0, hz1, hz2⟩ := info_parts info_byte
              have hown := hQ.own
              have hsz : w.heap.size + 1 + 1 + 1 ≤ wr.heap.size := by obtain ⟨q, _⟩ := Array.getElem?_eq_some_iff.1 hQ.mp; omega
              go_wp2_with fail
              refine hN.mono ?_
              rintro e w1 ⟨rfl, k1, rfl⟩
              go_wp2_with fail
              refine (next0 b s i v _ (by omega) (hQ.drewN k1).scan.row).mono ?_
              rintro e w1 ⟨rfl, k2, rfl⟩
              go_wp2_with fail
              go_quiet (fail)
              go_wp2_with (at_builtin; refine wpList_append_lies _ (by rfl) _ _ _ (by rfl) (w.heap.size + 1 + 1 + 1) 5 i0 _ 1 1 Tryz.underlying37 hi0 hz0 hz1 hz2 (by rfl) (by omega) _ out.length (Lib.byteCells out) (by rfl) (hown.alloc _) ⟨wr.heap.size, 0, none⟩ 1 1 [.int .u8 (bt s i)] (by rfl) (by rfl) (World.news_of_block (cs := #[.int .u8 (bt s i)]) (t := 5) (fr := (0, 0)) (heap_alloc_new _ _)) (by simp [Value.oneCell']) (by omega) (by unfold maxLen; omega) (by omega) (by simp; omega) _ (by rfl) ?_; intro gg cap w3 hown1 hgrow hat hlt9; have hP := QuoW.push (hQ.drewN _) hbs hfew (bu s i) (bt_bu s i) hown1 hgrow; have q1 := hP.scan.row.c1; have q2 := hP.scan.row.frozen 1; clear hgrow hown1)
              have hP2 := hP.set hbs (i + 1) (by omega) (by omega)
              go_roundw
              case rel => exact ⟨i + 1, _, n', _, rfl, hP2, by omega, by omega, quo_plain hR' HM.out HNB.out H92.out, by simp; omega⟩
              case measure => exact scan_meas2 hQ.scan.row hP2.scan.row (by omega) hle
      · have g1 : decide (s.size ≤ i) = true := by simp; omega
        have HX : Hid (R = .bad) := quo_bad hR' HM.out (.inl (by omega))
        go_wp2_with fail
        refine hN.mono ?_
        rintro e w1 ⟨rfl, k1, rfl⟩
        go_wp2_with fail
        refine (next0 b s i v _ (by omega) (hQ.drewN k1).scan.row).mono ?_
        rintro e w1 ⟨rfl, k2, rfl⟩
        go_wp2_with fail
        go_quiet (fail)
        go_wp2_with (refine wpList_store_row rfl 27 (.tmp 2) (.tmp 72) rfl w.heap.size zTok rfl rfl 27 zTok hQ.tok (info_tok _ rfl) rfl zTok_cells ?_)
        refine bodyPost_ret (v := .tuple #[.agg zTok, .iface 110 (.pointer (some ⟨w.heap.size + 1, 0, none⟩))]) ?_ rfl ?_
        · exact results_row_tmp rfl _ _ w.heap.size 27 zTok (0, 0) _ _ rfl rfl (setRow_heap _ _ _ _ _ _ (by exact hQ.tok)) Tryz.underlying27 rfl (info_tok _ rfl)
        exact quo_fault (HX.out) (hQ.drewN _)
end Go.Proofs.YtmapaagdaojpaaaGreatDoor
