/- The scanner's token: the walk. -/
import Derived.Test.YtmapaagdaojpaaaGreatDoorTokw
import Derived.Test.YtmapaagdaojpaaaGreatDoorNum
namespace Go.Proofs.YtmapaagdaojpaaaGreatDoor
open Go.RowKit

def TokenPost (B b : Nat) (s : ByteArray) (fr : Nat) (sp : List (Nat × Nat)) (v : Value) (w : World) (r : TokR) (e : Ending) (w' : World) : Prop :=
  match r with
  | .bad code x => ErrPost b v w x code e w'
  | .ok kind text fin => TokPost B b s sp v w kind text fr fin e w'
theorem cell_new1 (W : World) (x : Value) (t : TypeId) : (W.alloc (.cells #[x] t)).cell? ⟨W.heap.size, 0, none⟩ = some x := by
  have hT := heap_alloc_new W (.cells #[x] t)
  generalize W.alloc _ = U at hT ⊢
  simp [World.cell?, hT]
theorem frozen_new1 (W : World) (x : Value) (t : TypeId) : (W.alloc (.cells #[x] t)).frozen? ⟨W.heap.size, 0, none⟩ = false := by
  have hT := heap_alloc_new W (.cells #[x] t)
  generalize W.alloc _ = U at hT ⊢
  simp [World.frozen?, hT]
theorem quo_cases {B b : Nat} {s : ByteArray} {fr : Nat} {mark : Int} {sp : List (Nat × Nat)} {v : Value} {w : World} {q : QuoR} {R : TokR} {e : Ending} {w' : World} (h : QuoPost B b s fr mark sp v w q e w') (hR : quoR mark fr q = R) :
    (∃ code, R = .bad code fr ∧ ErrPost b v w fr code e w') ∨ ∃ kind text fin, R = .ok kind text fin ∧ TokPost B b s sp v w kind text fr fin e w' := by
  subst hR
  cases q with
  | bad => exact .inl ⟨41, rfl, h⟩
  | ok out fin =>
    unfold QuoPost at h
    unfold quoR
    dsimp only at h ⊢
    by_cases h39 : mark = 39
    · rw [if_pos h39] at h ⊢; exact .inr ⟨_, _, _, rfl, h⟩
    · rw [if_neg h39] at h ⊢
      by_cases hl : out.length < 1 ∨ 60 < out.length
      · rw [if_pos hl] at h ⊢; exact .inl ⟨_, rfl, h⟩
      · rw [if_neg hl] at h ⊢; exact .inr ⟨_, _, _, rfl, h⟩
theorem tokw_res {B b : Nat} {s : ByteArray} {at_ i : Nat} {sp : List (Nat × Nat)} {v : Value} {w W w1 : World} {z : Array Value} (hT : TokW B b s at_ i sp v w W z ∧ W.heap.size = w.heap.size + 4) (hk : ScanKept b v W.drew w1)
    (hb : b < w.heap.size) (hv : ∀ k, v.ownBlock = some k → k < w.heap.size) : w1.heap[w.heap.size + 1]? = some (.cells zTok 27 (0, 0)) := by
  refine (hk.block (w.heap.size + 1) ?_ ?_).trans hT.1.res
  · show _ < W.heap.size
    omega
  · rintro (e | e)
    · omega
    · have := hv _ e
      omega
theorem quiet_drew {P : Program} {f : FuncId} {args : Array Value} {w : World} {n m : Nat} {v : Value} (h : ∀ k, Calls P f args (w.drewN k) fun e w' => e = .returned v ∧ ∃ j, w' = (w.drewN k).drewN j) :
    Calls P f args (w.drewN (n + m)) fun e w'' => e = .returned v ∧ ∃ k, w'' = w.drewN (n + k) := (h _).mono fun _ _ ⟨a, j, b⟩ => ⟨a, m + j, by rw [b, World.drewN_drewN, Nat.add_assoc]⟩
theorem quiet_drew1 {P : Program} {f : FuncId} {args : Array Value} {w : World} {m : Nat} {v : Value} (h : ∀ k, Calls P f args (w.drewN k) fun e w' => e = .returned v ∧ ∃ j, w' = (w.drewN k).drewN j) :
    Calls P f args (w.drewN m) fun e w'' => e = .returned v ∧ ∃ k, w'' = w.drewN k := (h _).mono fun _ _ ⟨a, j, b⟩ => ⟨a, m + j, by rw [b, World.drewN_drewN]⟩
theorem ScanAt.below {B b : Nat} {s : ByteArray} {i : Nat} {sp : List (Nat × Nat)} {v : Value} {w w' : World} (h : ScanAt B b s i sp v w) (hb : Below w.heap.size w w') : ScanAt B b s i sp v w' :=
  ⟨World.rowIs.of_block h.row (hb.block _ h.row.lt), (Keep.of_below (S := fun _ => False) hb).owns h.own (fun _ _ q => q), h.le, h.few⟩
/-- The parts of a function's text. -/
def cTl : Code → Code
  | .seq _ b => b
  | _ => .skip
def cHd : Code → Code
  | .seq a _ => a
  | _ => .skip
/-- token's text behind its first two regions; its tail, behind the switch. -/
noncomputable def tokRest : Code := cTl (cTl (Tryz.f96.body.getD .skip))
noncomputable def tokTail : Code := cTl (cTl (cTl tokRest))
section
variable {B b : Nat} {s : ByteArray} {fr i j : Nat} {sp : List (Nat × Nat)} {v : Value} {w wr w1 : World} {t : Array Value}
theorem TokW.nm_cell (h : TokW B b s fr i sp v w wr t) : wr.cell? ⟨w.heap.size, 0, none⟩ = some (.pointer (some ⟨b, 0, none⟩)) := by simp [World.cell?, h.nm]
theorem TokW.pl_cell (h : TokW B b s fr i sp v w wr t) : wr.cell? ⟨w.heap.size + 2, 0, none⟩ = some (.int .i64 fr) := by simp [World.cell?, h.pl]
theorem TokW.tok_text {x y z : Value} (h : TokW B b s fr i sp v w wr #[x, y, z]) : wr.cell? ⟨w.heap.size + 3, 1, none⟩ = some y := by simp [World.cell?, h.tok]
theorem TokW.drewN (h : TokW B b s fr i sp v w wr t) (n : Nat) : TokW B b s fr i sp v w (wr.drewN n) t := ⟨h.scan.drewN n, h.kept.drewN n, h.nm, h.res, h.pl, h.tok⟩
theorem TokW.lt (h : TokW B b s fr i sp v w wr t) : w.heap.size + 4 ≤ wr.heap.size := by
  obtain ⟨q, _⟩ := Array.getElem?_eq_some_iff.1 h.tok; omega
theorem TokW.step (h : TokW B b s fr i sp v w wr t) (hk : Keep (fun k => k = b) wr w1) (hs : ScanAt B b s j sp v w1) (hb : b < w.heap.size) : TokW B b s fr j sp v w w1 t := by
  have hl := h.lt
  exact ⟨hs, Keep.trans h.kept hk (fun _ _ q => .inl q), (hk.block _ (by omega) (by omega)).trans h.nm, (hk.block _ (by omega) (by omega)).trans h.res, (hk.block _ (by omega) (by omega)).trans h.pl, (hk.block _ (by omega) (by omega)).trans h.tok⟩
theorem TokW.below (h : TokW B b s fr i sp v w wr t) (hb : Below wr.heap.size wr w1) : TokW B b s fr i sp v w w1 t := by
  have hl := h.lt
  exact ⟨h.scan.below hb, Keep.trans h.kept (Keep.of_below (S := fun _ => False) hb) (fun _ _ q => q.elim), (hb.block _ (by omega)).trans h.nm, (hb.block _ (by omega)).trans h.res, (hb.block _ (by omega)).trans h.pl, (hb.block _ (by omega)).trans h.tok⟩
theorem TokW.setTok (h : TokW B b s fr i sp v w wr t) (hb : b < w.heap.size) (hvl : ∀ k, v.ownBlock = some k → k < w.heap.size) (cs : Array Value) : TokW B b s fr i sp v w (wr.setRow (w.heap.size + 3) cs) cs := by
  have hkS : Keep (fun k => k = w.heap.size + 3) wr (wr.setRow (w.heap.size + 3) cs) := ⟨rfl, rfl, rfl, by simp, fun k _ n => setRow_other _ _ _ _ n⟩
  exact ⟨⟨hkS.row h.scan.row (by omega), hkS.owns h.scan.own (fun k e q => by have := hvl k e; omega), h.scan.le, h.scan.few⟩, keep_setRow h.kept _ (by omega) _,
    (setRow_other _ _ _ _ (by omega)).trans h.nm, (setRow_other _ _ _ _ (by omega)).trans h.res, (setRow_other _ _ _ _ (by omega)).trans h.pl, setRow_heap _ _ _ _ _ _ h.tok⟩
theorem TokW.ret (h : TokW B b s fr i sp v w wr t) (hvl : ∀ k, v.ownBlock = some k → k < w.heap.size) (hb : b < w.heap.size) (kind : Int) (text : ByteArray) :
    TokPost B b s sp v w kind text fr i (.returned (.tuple #[.agg (tokCells kind text fr), .nilIface])) (wr.setRow (w.heap.size + 1) (tokCells kind text fr)) := by
  have hkS : Keep (fun k => k = w.heap.size + 1) wr (wr.setRow (w.heap.size + 1) (tokCells kind text fr)) := ⟨rfl, rfl, rfl, by simp, fun k _ n => setRow_other _ _ _ _ n⟩
  exact ⟨rfl, ⟨hkS.row h.scan.row (by omega), hkS.owns h.scan.own (fun k e q => by have := hvl k e; omega), h.scan.le, h.scan.few⟩, keep_setRow h.kept _ (by omega) _⟩
/-- The result's block while an error is made. -/
theorem tokw_err (h : TokW B b s fr i sp v w wr t) :
    wr.cell? ⟨w.heap.size + 1, 0, none⟩ = some (.int .i64 0) ∧ wr.cell? ⟨w.heap.size + 1, 1, none⟩ = some (.string ⟨#[]⟩) ∧ wr.cell? ⟨w.heap.size + 1, 2, none⟩ = some (.int .i64 0) ∧
    wr.frozen? ⟨w.heap.size + 1, 0, none⟩ = false ∧ wr.frozen? ⟨w.heap.size + 1, 1, none⟩ = false ∧ wr.frozen? ⟨w.heap.size + 1, 2, none⟩ = false := by
  have hr := h.res
  simp [World.cell?, World.frozen?, hr, zTok]
def errW (wr : World) (g : Nat) (o : Obj) : World := ((((wr.setCell ⟨g, 0, none⟩ (.int .i64 0)).setCell ⟨g, 1, none⟩ (.string ⟨#[]⟩)).setCell ⟨g, 2, none⟩ (.int .i64 0))).alloc o
def SameW (W E : World) : Prop := W.heap = E.heap ∧ W.os = E.os ∧ W.tape = E.tape ∧ W.output = E.output
theorem Keep.same {S : Nat → Prop} {a c e : World} (h : Keep S a e) (hc : SameW c e) : Keep S a c := by
  obtain ⟨h1, h2, h3, h4⟩ := hc
  exact ⟨h2.trans h.os, h3.trans h.tape, h4.trans h.output, by rw [h1]; exact h.size, fun k hk q => by rw [h1]; exact h.block k hk q⟩
theorem set3_size (wr : World) (a c d : Addr) (x y z : Value) : (((wr.setCell a x).setCell c y).setCell d z).heap.size = wr.heap.size := by simp
theorem tokw_err_heap (h : TokW B b s fr i sp v w wr t) (o : Obj) {W : World} (hW : SameW W (errW wr (w.heap.size + 1) o)) : W.heap[w.heap.size + 1]? = some (.cells zTok 27 (0, 0)) := by
  have hl := h.lt
  have hr := h.res
  rw [hW.1]
  unfold errW
  have h1 := heap_setCell_same wr (w.heap.size + 1) 0 _ _ (.int .i64 0) hr
  have h2 := heap_setCell_same _ (w.heap.size + 1) 1 _ _ (.string ⟨#[]⟩) h1
  have h3 := heap_setCell_same _ (w.heap.size + 1) 2 _ _ (.int .i64 0) h2
  refine (Below.heap_alloc _ _ _ (by rw [set3_size]; omega)).trans (h3.trans ?_)
  simp [zTok]
theorem tokw_err_post (h : TokW B b s fr i sp v w wr t) (place : Nat) (code : Int) (W : World) {k : Nat} (hk0 : wr.heap.size = k) (hW : SameW W (errW wr (w.heap.size + 1) (.cells #[.int .i64 place, .int .i64 code] 112))) :
    ErrPost b v w place code (.returned (.tuple #[.agg zTok, .iface 110 (.pointer (some ⟨k, 0, none⟩))])) W := by
  subst hk0
  have hl := h.lt
  have hk : Keep (fun k => k = w.heap.size + 1) wr (errW wr (w.heap.size + 1) (.cells #[.int .i64 place, .int .i64 code] 112)) :=
    ((take_keep wr (w.heap.size + 1) (.int .i64 0) (.string ⟨#[]⟩) (.int .i64 0)).trans (Keep.of_alloc (S := fun _ => False) _ (.cells #[.int .i64 place, .int .i64 code] 112)) (fun _ _ q => False.elim q)).same ⟨rfl, rfl, rfl, rfl⟩
  refine ⟨wr.heap.size, rfl, by omega, ?_, (Keep.trans h.kept hk (fun k hk q => by omega)).same hW⟩
  rw [hW.1]
  unfold errW
  have := heap_alloc_new ((((wr.setCell ⟨w.heap.size + 1, 0, none⟩ (.int .i64 0)).setCell ⟨w.heap.size + 1, 1, none⟩ (.string ⟨#[]⟩)).setCell ⟨w.heap.size + 1, 2, none⟩ (.int .i64 0))) (.cells #[.int .i64 place, .int .i64 code] 112)
  rwa [set3_size] at this
end
/-- What the tail of token does, whatever code it is: it looks for a token directly behind. -/
def TailOk (B b : Nat) (s : ByteArray) (at_ : Nat) (sp : List (Nat × Nat)) (v : Value) (w : World) (R : TokR) (C : Code) : Prop :=
  ∀ (kind : Int) (fin : Nat) (wr : World) (tx : ByteArray) (u0 u3 u4 u5 u6 u8 u9 u10 u11 u12 u13 u14 u15 u16 u17 u18 u19 u20 u21 u22 u23 u24 u25 u26 u27 u28 u29 u30 u31 u32 u33 u34 u35 u36 u37 u38 u39 u40 u41 u42 u43 u44 u45 u46 u47 u48 u49 u50 u51 u52 u53 u54 u55 u56 u57 u58 u59 u60 u61 u62 u63 u64 u65 u66 u67 u68 u69 u70 u71 u72 u73 u74 u75 u76 u77 u78 u79 u80 u81 u82 u83 u84 u85 u86 u87 u88 u89 u90 u91 u92 u93 u94 u95 u96 u97 u98 u99 u100 u101 u102 u103 u104 u105 u106 u107 u108 u109 u110 u111 u112 u113 u114 u115 u116 u117 u118 u119 u120 u121 u122 u123 u124 u125 u126 u127 u128 u129 u130 u131 u132 u133 u134 u135 u136 u137 u138 u139 u140 u141 u142 u143 u144 u145 u146 u147 u148 u149 u150 u151 u152 u153 u154 u155 u156 u157 u158 u159 u160 u161 u162 u163 u164 u165 u166 u167 u168 u169 u170 u171 u172 u173 u174 u175 u176 u177 u178 u179 u180 u181 u182 u183 u184 u185 u186 u187 u188 u189 u190 u191 u192 u193 u194 u195 u196 u197 u198 u199 u200 u201 u202 u203 u204 u205 u206 u207 u208 u209 u210 u211 u212 u213 u214 u215 u216 u217 u218 u219 u220 u221 u222 u223 u224 u225 u226 u227 u228 u229 u230 u231 u232 u233 u234 u235 : Value), Hid (near s kind at_ fin = R) → Hid (tx = s.extract at_ fin) → TokW B b s at_ fin sp v w wr #[.int .i64 kind, .string tx, .int .i64 at_] → w.heap.size + 4 ≤ wr.heap.size →
    Code.wp Tryz.prog C (bodyPost Tryz.prog Tryz.f96 (TokenPost B b s at_ sp v w R)) ⟨#[u0, .pointer (some ⟨w.heap.size, 0, none⟩), .pointer (some ⟨w.heap.size + 1, 0, none⟩), u3, u4, u5, u6, .pointer (some ⟨w.heap.size + 3, 0, none⟩), u8, u9, u10, u11, u12, u13, u14, u15, u16, u17, u18, u19, u20, u21, u22, u23, u24, u25, u26, u27, u28, u29, u30, u31, u32, u33, u34, u35, u36, u37, u38, u39, u40, u41, u42, u43, u44, u45, u46, u47, u48, u49, u50, u51, u52, u53, u54, u55, u56, u57, u58, u59, u60, u61, u62, u63, u64, u65, u66, u67, u68, u69, u70, u71, u72, u73, u74, u75, u76, u77, u78, u79, u80, u81, u82, u83, u84, u85, u86, u87, u88, u89, u90, u91, u92, u93, u94, u95, u96, u97, u98, u99, u100, u101, u102, u103, u104, u105, u106, u107, u108, u109, u110, u111, u112, u113, u114, u115, u116, u117, u118, u119, u120, u121, u122, u123, u124, u125, u126, u127, u128, u129, u130, u131, u132, u133, u134, u135, u136, u137, u138, u139, u140, u141, u142, u143, u144, u145, u146, u147, u148, u149, u150, u151, u152, u153, u154, u155, u156, u157, u158, u159, u160, u161, u162, u163, u164, u165, u166, u167, u168, u169, u170, u171, u172, u173, u174, u175, u176, u177, u178, u179, u180, u181, u182, u183, u184, u185, u186, u187, u188, u189, u190, u191, u192, u193, u194, u195, u196, u197, u198, u199, u200, u201, u202, u203, u204, u205, u206, u207, u208, u209, u210, u211, u212, u213, u214, u215, u216, u217, u218, u219, u220, u221, u222, u223, u224, u225, u226, u227, u228, u229, u230, u231, u232, u233, u234, u235], []⟩ wr

set_option maxHeartbeats 1000000 in
set_option maxRecDepth 100000 in
theorem way_quo39 (B b : Nat) (s : ByteArray) (at_ : Nat) (sp : List (Nat × Nat)) (v : Value) (w X : World) (R : TokR) (x : Nat) (cv ix : Int) (C : Code) (_hC : TailOk B b s at_ sp v w R C) (hs : s.size ≤ 40000) (hlt : at_ < s.size) (hB : B ≤ w.heap.size) (hbB : B ≤ b)
    (hx1 : x < 256) (HB : Hid ((x : Int) = bt s at_)) (HV : Hid (cls x = cv)) (hbs : b < w.heap.size) (hvl : ∀ k, v.ownBlock = some k → k < w.heap.size)
    (hT : TokW B b s at_ at_ sp v w (X.alloc (.cells #[.int .i64 0, .string ⟨#[]⟩, .int .i64 0] 27)) zTok ∧ (X.alloc (.cells #[.int .i64 0, .string ⟨#[]⟩, .int .i64 0] 27)).heap.size = w.heap.size + 4)
    (hR : Hid (tokN s at_ = R)) (_hI : ∀ w, Calls Tryz.prog 68 #[.string ⟨#[115, 116, 101]⟩, .int .u8 x] w fun e w' => e = .returned (.int .i64 ix) ∧ w' = w)
    (HQ0 : Hid ((x : Int) = 39)) (u13 u14 u15 u16 u17 u18 u19 u20 u21 u22 u23 u24 u25 : Value) :
    Code.wp Tryz.prog (.seq (cHd tokRest) (.seq (cHd (cTl tokRest)) (.seq (cHd (cTl (cTl tokRest))) C))) (bodyPost Tryz.prog Tryz.f96 (TokenPost B b s at_ sp v w R)) ⟨#[.pointer (some ⟨b, 0, none⟩), .pointer (some ⟨w.heap.size, 0, none⟩), .pointer (some ⟨w.heap.size + 1, 0, none⟩), .nilIface, .pointer (some ⟨w.heap.size + 2, 0, none⟩), .int .u8 x, undef, undef, undef, undef, undef, undef, undef, u13, u14, u15, u16, u17, u18, u19, u20, u21, u22, u23, u24, u25, undef, undef, undef, undef, undef, undef, undef, undef, undef, undef, undef, undef, undef, undef, undef, undef, undef, undef, undef, undef, undef, undef, undef, undef, undef, undef, undef, undef, undef, undef, undef, undef, undef, undef, undef, undef, undef, undef, undef, undef, undef, undef, undef, undef, undef, undef, undef, undef, undef, undef, undef, undef, undef, undef, undef, undef, undef, undef, undef, undef, undef, undef, undef, undef, undef, undef, undef, undef, undef, undef, undef, undef, undef, undef, undef, undef, undef, undef, undef, undef, undef, undef, undef, undef, undef, undef, undef, undef, undef, undef, undef, undef, undef, undef, undef, undef, undef, undef, undef, undef, undef, undef, undef, undef, undef, undef, undef, undef, undef, undef, undef, undef, undef, undef, undef, undef, undef, undef, undef, undef, undef, undef, undef, undef, undef, undef, undef, undef, undef, undef, undef, undef, undef, undef, undef, undef, undef, undef, undef, undef, undef, undef, undef, undef, undef, undef, undef, undef, undef, undef, undef, undef, undef, undef, undef, undef, undef, undef, undef, undef, undef, undef, undef, undef, undef, undef, undef, undef, undef, undef, undef, undef, undef, undef, undef, undef, undef, undef, undef, undef, undef, undef, undef, undef, undef, undef, undef, undef, undef, undef, undef, undef, undef, undef, undef, undef, undef, undef, undef, undef, undef, undef, undef, undef, undef, undef, undef, undef, undef, undef], []⟩ X.drew := by
  clear _hC _hI
  have hcl3 := hT.1.scan.row.c2 x hx1
  rw [HV.out] at hcl3
  have hsp3 := hT.1.nm_cell
  have hpl3 := hT.1.pl_cell
  have hc03 := hT.1.scan.row.c0
  have hx2 : (x : Int) < 256 := by omega
  have hX : X.heap.size = w.heap.size + 3 := by have := hT.2; simp at this; omega
  have q39 : ((x : Int) == 39) = true := by simpa using HQ0.out
  conv => arg 2; arg 1; whnf
  conv => arg 2; arg 2; arg 1; whnf
  conv => arg 2; arg 2; arg 2; arg 1; whnf
  go_wp2_with fail
  generalize World.alloc X _ = W4 at hT hcl3 hsp3 hpl3 hc03 ⊢
  have hb39 : bt s at_ = 39 := HB.out.symm.trans HQ0.out
  have hQ := tok_quo hR.out (.inl hb39)
  rw [hb39] at hQ
  generalize hq2 : quoN s 39 (s.size - at_) (at_ + 1) [] = Q at hQ
  have hQH := Lib.hid hQ
  clear hQ
  refine (quotation_any B b s at_ sp v W4.drew hs (hT.1.scan.drewN 1) hlt (by show B ≤ W4.heap.size; omega) hbB 39 hb39 (.inl rfl) Q _ (by omega) hq2).mono ?_
  rintro e w1 hP
  rcases quo_cases hP hQH.out with ⟨code, hRR, k, rfl, hk, hh, hkp⟩ | ⟨kind, text, fin, hRR, rfl, hsc, hkp⟩
  · have hRR := Lib.hid hRR
    have hres := tokw_res hT hkp hbs hvl
    go_wp2_with (refine wpList_store_row rfl 27 (.tmp 2) (.tmp 47) rfl (w.heap.size + 1) zTok rfl rfl 27 zTok hres (info_tok _ rfl) rfl zTok_cells ?_)
    refine bodyPost_ret (v := .tuple #[.agg zTok, .iface 110 (.pointer (some ⟨k, 0, none⟩))]) ?_ rfl ?_
    · exact results_row_tmp rfl _ _ (w.heap.size + 1) 27 zTok (0, 0) _ _ rfl rfl (setRow_heap _ _ _ _ _ _ hres) Tryz.underlying27 rfl (info_tok _ rfl)
    · rw [hRR.out]
      have hk2 : w.heap.size + 4 ≤ k := by have : W4.heap.size ≤ k := hk; omega
      exact ⟨k, rfl, by omega, (setRow_other _ _ _ _ (by omega)).trans hh, keep_setRow ((hT.1.kept.drewN 1).trans hkp (fun _ _ q => q)) _ (by omega) _⟩
  · have hRR := Lib.hid hRR
    have hres := tokw_res hT hkp hbs hvl
    go_wp2_with (refine wpList_store_row rfl 27 (.tmp 2) (.tmp 47) rfl (w.heap.size + 1) (tokCells kind text at_) rfl rfl 27 zTok hres (info_tok _ rfl) rfl (tok_cells _ _ _) ?_)
    refine bodyPost_ret (v := .tuple #[.agg (tokCells kind text at_), .nilIface]) ?_ rfl ?_
    · exact results_row_tmp rfl _ _ (w.heap.size + 1) 27 (tokCells kind text at_) (0, 0) _ _ rfl rfl (setRow_heap _ _ _ _ _ _ hres) Tryz.underlying27 rfl (info_tok _ rfl)
    · rw [hRR.out]
      have hkS : Keep (fun k => k = w.heap.size + 1) w1 (w1.setRow (w.heap.size + 1) (tokCells kind text at_)) := ⟨rfl, rfl, rfl, by simp, fun k _ n => setRow_other _ _ _ _ n⟩
      exact ⟨rfl, ⟨hkS.row hsc.row (by omega), hkS.owns hsc.own (fun k e q => by have := hvl k e; omega), hsc.le, hsc.few⟩, keep_setRow ((hT.1.kept.drewN 1).trans hkp (fun _ _ q => q)) _ (by omega) _⟩

set_option maxHeartbeats 1000000 in
set_option maxRecDepth 100000 in
theorem way_quo34 (B b : Nat) (s : ByteArray) (at_ : Nat) (sp : List (Nat × Nat)) (v : Value) (w X : World) (R : TokR) (x : Nat) (cv ix : Int) (C : Code) (_hC : TailOk B b s at_ sp v w R C) (hs : s.size ≤ 40000) (hlt : at_ < s.size) (hB : B ≤ w.heap.size) (hbB : B ≤ b)
    (hx1 : x < 256) (HB : Hid ((x : Int) = bt s at_)) (HV : Hid (cls x = cv)) (hbs : b < w.heap.size) (hvl : ∀ k, v.ownBlock = some k → k < w.heap.size)
    (hT : TokW B b s at_ at_ sp v w (X.alloc (.cells #[.int .i64 0, .string ⟨#[]⟩, .int .i64 0] 27)) zTok ∧ (X.alloc (.cells #[.int .i64 0, .string ⟨#[]⟩, .int .i64 0] 27)).heap.size = w.heap.size + 4)
    (hR : Hid (tokN s at_ = R)) (_hI : ∀ w, Calls Tryz.prog 68 #[.string ⟨#[115, 116, 101]⟩, .int .u8 x] w fun e w' => e = .returned (.int .i64 ix) ∧ w' = w)
    (HQ0 : Hid ((x : Int) = 34)) (u13 u14 u15 u16 u17 u18 u19 u20 u21 u22 u23 u24 u25 : Value) :
    Code.wp Tryz.prog (.seq (cHd tokRest) (.seq (cHd (cTl tokRest)) (.seq (cHd (cTl (cTl tokRest))) C))) (bodyPost Tryz.prog Tryz.f96 (TokenPost B b s at_ sp v w R)) ⟨#[.pointer (some ⟨b, 0, none⟩), .pointer (some ⟨w.heap.size, 0, none⟩), .pointer (some ⟨w.heap.size + 1, 0, none⟩), .nilIface, .pointer (some ⟨w.heap.size + 2, 0, none⟩), .int .u8 x, undef, undef, undef, undef, undef, undef, undef, u13, u14, u15, u16, u17, u18, u19, u20, u21, u22, u23, u24, u25, undef, undef, undef, undef, undef, undef, undef, undef, undef, undef, undef, undef, undef, undef, undef, undef, undef, undef, undef, undef, undef, undef, undef, undef, undef, undef, undef, undef, undef, undef, undef, undef, undef, undef, undef, undef, undef, undef, undef, undef, undef, undef, undef, undef, undef, undef, undef, undef, undef, undef, undef, undef, undef, undef, undef, undef, undef, undef, undef, undef, undef, undef, undef, undef, undef, undef, undef, undef, undef, undef, undef, undef, undef, undef, undef, undef, undef, undef, undef, undef, undef, undef, undef, undef, undef, undef, undef, undef, undef, undef, undef, undef, undef, undef, undef, undef, undef, undef, undef, undef, undef, undef, undef, undef, undef, undef, undef, undef, undef, undef, undef, undef, undef, undef, undef, undef, undef, undef, undef, undef, undef, undef, undef, undef, undef, undef, undef, undef, undef, undef, undef, undef, undef, undef, undef, undef, undef, undef, undef, undef, undef, undef, undef, undef, undef, undef, undef, undef, undef, undef, undef, undef, undef, undef, undef, undef, undef, undef, undef, undef, undef, undef, undef, undef, undef, undef, undef, undef, undef, undef, undef, undef, undef, undef, undef, undef, undef, undef, undef, undef, undef, undef, undef, undef, undef, undef, undef, undef, undef, undef, undef, undef, undef, undef, undef, undef, undef, undef, undef, undef, undef, undef, undef, undef, undef, undef, undef, undef, undef, undef], []⟩ X.drew := by
  clear _hC _hI
  have hcl3 := hT.1.scan.row.c2 x hx1
  rw [HV.out] at hcl3
  have hsp3 := hT.1.nm_cell
  have hpl3 := hT.1.pl_cell
  have hc03 := hT.1.scan.row.c0
  have hx2 : (x : Int) < 256 := by omega
  have hX : X.heap.size = w.heap.size + 3 := by have := hT.2; simp at this; omega
  have q39 : ((x : Int) == 39) = false := by have := HQ0.out; simp; omega
  have q34 : ((x : Int) == 34) = true := by simpa using HQ0.out
  conv => arg 2; arg 1; whnf
  conv => arg 2; arg 2; arg 1; whnf
  conv => arg 2; arg 2; arg 2; arg 1; whnf
  go_wp2_with fail
  generalize World.alloc X _ = W4 at hT hcl3 hsp3 hpl3 hc03 ⊢
  have hb39 : bt s at_ = 34 := HB.out.symm.trans HQ0.out
  have hQ := tok_quo hR.out (.inr hb39)
  rw [hb39] at hQ
  generalize hq2 : quoN s 34 (s.size - at_) (at_ + 1) [] = Q at hQ
  have hQH := Lib.hid hQ
  clear hQ
  refine (quotation_any B b s at_ sp v W4.drew hs (hT.1.scan.drewN 1) hlt (by show B ≤ W4.heap.size; omega) hbB 34 hb39 (.inr rfl) Q _ (by omega) hq2).mono ?_
  rintro e w1 hP
  rcases quo_cases hP hQH.out with ⟨code, hRR, k, rfl, hk, hh, hkp⟩ | ⟨kind, text, fin, hRR, rfl, hsc, hkp⟩
  · have hRR := Lib.hid hRR
    have hres := tokw_res hT hkp hbs hvl
    go_wp2_with (refine wpList_store_row rfl 27 (.tmp 2) (.tmp 47) rfl (w.heap.size + 1) zTok rfl rfl 27 zTok hres (info_tok _ rfl) rfl zTok_cells ?_)
    refine bodyPost_ret (v := .tuple #[.agg zTok, .iface 110 (.pointer (some ⟨k, 0, none⟩))]) ?_ rfl ?_
    · exact results_row_tmp rfl _ _ (w.heap.size + 1) 27 zTok (0, 0) _ _ rfl rfl (setRow_heap _ _ _ _ _ _ hres) Tryz.underlying27 rfl (info_tok _ rfl)
    · rw [hRR.out]
      have hk2 : w.heap.size + 4 ≤ k := by have : W4.heap.size ≤ k := hk; omega
      exact ⟨k, rfl, by omega, (setRow_other _ _ _ _ (by omega)).trans hh, keep_setRow ((hT.1.kept.drewN 1).trans hkp (fun _ _ q => q)) _ (by omega) _⟩
  · have hRR := Lib.hid hRR
    have hres := tokw_res hT hkp hbs hvl
    go_wp2_with (refine wpList_store_row rfl 27 (.tmp 2) (.tmp 47) rfl (w.heap.size + 1) (tokCells kind text at_) rfl rfl 27 zTok hres (info_tok _ rfl) rfl (tok_cells _ _ _) ?_)
    refine bodyPost_ret (v := .tuple #[.agg (tokCells kind text at_), .nilIface]) ?_ rfl ?_
    · exact results_row_tmp rfl _ _ (w.heap.size + 1) 27 (tokCells kind text at_) (0, 0) _ _ rfl rfl (setRow_heap _ _ _ _ _ _ hres) Tryz.underlying27 rfl (info_tok _ rfl)
    · rw [hRR.out]
      have hkS : Keep (fun k => k = w.heap.size + 1) w1 (w1.setRow (w.heap.size + 1) (tokCells kind text at_)) := ⟨rfl, rfl, rfl, by simp, fun k _ n => setRow_other _ _ _ _ n⟩
      exact ⟨rfl, ⟨hkS.row hsc.row (by omega), hkS.owns hsc.own (fun k e q => by have := hvl k e; omega), hsc.le, hsc.few⟩, keep_setRow ((hT.1.kept.drewN 1).trans hkp (fun _ _ q => q)) _ (by omega) _⟩

set_option maxHeartbeats 1000000 in
set_option maxRecDepth 100000 in
theorem way_sign (B b : Nat) (s : ByteArray) (at_ : Nat) (sp : List (Nat × Nat)) (v : Value) (w X : World) (R : TokR) (x : Nat) (cv ix : Int) (C : Code) (_hC : TailOk B b s at_ sp v w R C) (hs : s.size ≤ 40000) (hlt : at_ < s.size) (_hB : B ≤ w.heap.size) (_hbB : B ≤ b)
    (hx1 : x < 256) (HB : Hid ((x : Int) = bt s at_)) (HV : Hid (cls x = cv)) (hbs : b < w.heap.size) (hvl : ∀ k, v.ownBlock = some k → k < w.heap.size)
    (hT : TokW B b s at_ at_ sp v w (X.alloc (.cells #[.int .i64 0, .string ⟨#[]⟩, .int .i64 0] 27)) zTok ∧ (X.alloc (.cells #[.int .i64 0, .string ⟨#[]⟩, .int .i64 0] 27)).heap.size = w.heap.size + 4)
    (hR : Hid (tokN s at_ = R)) (_hI : ∀ w, Calls Tryz.prog 68 #[.string ⟨#[115, 116, 101]⟩, .int .u8 x] w fun e w' => e = .returned (.int .i64 ix) ∧ w' = w)
    (hnq : ¬ ((x : Int) = 39 ∨ (x : Int) = 34)) (hcv : cv = 4) (u13 u14 u15 u16 u17 u18 u19 u20 u21 u22 u23 u24 u25 : Value) :
    Code.wp Tryz.prog (.seq (cHd tokRest) (.seq (cHd (cTl tokRest)) (.seq (cHd (cTl (cTl tokRest))) C))) (bodyPost Tryz.prog Tryz.f96 (TokenPost B b s at_ sp v w R)) ⟨#[.pointer (some ⟨b, 0, none⟩), .pointer (some ⟨w.heap.size, 0, none⟩), .pointer (some ⟨w.heap.size + 1, 0, none⟩), .nilIface, .pointer (some ⟨w.heap.size + 2, 0, none⟩), .int .u8 x, undef, undef, undef, undef, undef, undef, undef, u13, u14, u15, u16, u17, u18, u19, u20, u21, u22, u23, u24, u25, undef, undef, undef, undef, undef, undef, undef, undef, undef, undef, undef, undef, undef, undef, undef, undef, undef, undef, undef, undef, undef, undef, undef, undef, undef, undef, undef, undef, undef, undef, undef, undef, undef, undef, undef, undef, undef, undef, undef, undef, undef, undef, undef, undef, undef, undef, undef, undef, undef, undef, undef, undef, undef, undef, undef, undef, undef, undef, undef, undef, undef, undef, undef, undef, undef, undef, undef, undef, undef, undef, undef, undef, undef, undef, undef, undef, undef, undef, undef, undef, undef, undef, undef, undef, undef, undef, undef, undef, undef, undef, undef, undef, undef, undef, undef, undef, undef, undef, undef, undef, undef, undef, undef, undef, undef, undef, undef, undef, undef, undef, undef, undef, undef, undef, undef, undef, undef, undef, undef, undef, undef, undef, undef, undef, undef, undef, undef, undef, undef, undef, undef, undef, undef, undef, undef, undef, undef, undef, undef, undef, undef, undef, undef, undef, undef, undef, undef, undef, undef, undef, undef, undef, undef, undef, undef, undef, undef, undef, undef, undef, undef, undef, undef, undef, undef, undef, undef, undef, undef, undef, undef, undef, undef, undef, undef, undef, undef, undef, undef, undef, undef, undef, undef, undef, undef, undef, undef, undef, undef, undef, undef, undef, undef, undef, undef, undef, undef, undef, undef, undef, undef, undef, undef, undef, undef, undef, undef, undef, undef, undef], []⟩ X.drew := by
  clear _hC _hB _hbB _hI
  have hcl3 := hT.1.scan.row.c2 x hx1
  rw [HV.out] at hcl3
  have hsp3 := hT.1.nm_cell
  have hpl3 := hT.1.pl_cell
  have hc03 := hT.1.scan.row.c0
  have hx2 : (x : Int) < 256 := by omega
  have hX : X.heap.size = w.heap.size + 3 := by have := hT.2; simp at this; omega
  have n39 : ((x : Int) == 39) = false := by simp; omega
  have n34 : ((x : Int) == 34) = false := by simp; omega
  have HQ : Hid (¬ (bt s at_ = 39 ∨ bt s at_ = 34)) := by rw [← HB.out]; exact hnq
  clear hnq
  obtain rfl : cv = 4 := hcv
  have HC : Hid (cls (bt s at_).toNat = 4) := by rw [← HB.out]; exact HV.out
  conv => arg 2; arg 1; whnf
  conv => arg 2; arg 2; arg 1; whnf
  conv => arg 2; arg 2; arg 2; arg 1; whnf
  go_wp2_with fail
  generalize World.alloc X _ = W4 at hT hcl3 hsp3 hpl3 hc03 ⊢
  have e1 : IntKind.i64.wrap ((at_ : Int) + 1) = ((at_ + 1 : Nat) : Int) := (IntWalk.i64_in _ (by omega)).trans (by omega)
  try rw [e1]
  refine (take_any B b w.heap.size (w.heap.size + 2) s at_ at_ (at_ + 1) 6 sp v W4.drew hs (hT.1.scan.drewN 1) hT.1.nm hT.1.pl (by omega) (by omega) (by omega)).mono ?_
  rintro e w1 ⟨rfl, hsc, hkp⟩
  have hT1 := (hT.1.drewN 1).step hkp hsc hbs
  have hres := hT1.res
  go_wp2_with (refine wpList_store_row rfl 27 (.tmp 2) (.tmp 55) rfl (w.heap.size + 1) (tokCells 6 (s.extract at_ (at_ + 1)) at_) rfl rfl 27 zTok hres (info_tok _ rfl) rfl (tok_cells _ _ _) ?_)
  refine bodyPost_ret (v := .tuple #[.agg (tokCells 6 (s.extract at_ (at_ + 1)) at_), .nilIface]) ?_ rfl ?_
  · exact results_row_tmp rfl _ _ (w.heap.size + 1) 27 (tokCells 6 (s.extract at_ (at_ + 1)) at_) (0, 0) _ _ rfl rfl (setRow_heap _ _ _ _ _ _ hres) Tryz.underlying27 rfl (info_tok _ rfl)
  · rw [tok_sign hR.out HQ.out HC.out]
    exact hT1.ret hvl hbs _ _

set_option maxHeartbeats 1000000 in
set_option maxRecDepth 100000 in
theorem way_none1 (B b : Nat) (s : ByteArray) (at_ : Nat) (sp : List (Nat × Nat)) (v : Value) (w X : World) (R : TokR) (x : Nat) (cv ix : Int) (C : Code) (_hC : TailOk B b s at_ sp v w R C) (_hs : s.size ≤ 40000) (_hlt : at_ < s.size) (_hB : B ≤ w.heap.size) (_hbB : B ≤ b)
    (hx1 : x < 256) (HB : Hid ((x : Int) = bt s at_)) (HV : Hid (cls x = cv)) (_hbs : b < w.heap.size) (_hvl : ∀ k, v.ownBlock = some k → k < w.heap.size)
    (hT : TokW B b s at_ at_ sp v w (X.alloc (.cells #[.int .i64 0, .string ⟨#[]⟩, .int .i64 0] 27)) zTok ∧ (X.alloc (.cells #[.int .i64 0, .string ⟨#[]⟩, .int .i64 0] 27)).heap.size = w.heap.size + 4)
    (hR : Hid (tokN s at_ = R)) (hI : ∀ w, Calls Tryz.prog 68 #[.string ⟨#[115, 116, 101]⟩, .int .u8 x] w fun e w' => e = .returned (.int .i64 ix) ∧ w' = w)
    (hnq : ¬ ((x : Int) = 39 ∨ (x : Int) = 34)) (h4 : (cv == 4) = false) (h2 : (cv == 2) = false) (h3 : (cv == 3) = false) (h36 : ((x : Int) == 36) = false) (hix : ix < 0) (HST : Hid (¬ (steB (bt s at_) = true ∧ bt s (at_ + 1) = 46))) (H3 : Hid (¬ (cls (bt s at_).toNat = 3 ∨ bt s at_ = 45 ∧ cls (bt s (at_ + 1)).toNat = 3))) (h45 : ((x : Int) == 45) = false) (u13 u14 u15 u16 u17 u18 u19 u20 u21 u22 u23 u24 u25 : Value) :
    Code.wp Tryz.prog (.seq (cHd tokRest) (.seq (cHd (cTl tokRest)) (.seq (cHd (cTl (cTl tokRest))) C))) (bodyPost Tryz.prog Tryz.f96 (TokenPost B b s at_ sp v w R)) ⟨#[.pointer (some ⟨b, 0, none⟩), .pointer (some ⟨w.heap.size, 0, none⟩), .pointer (some ⟨w.heap.size + 1, 0, none⟩), .nilIface, .pointer (some ⟨w.heap.size + 2, 0, none⟩), .int .u8 x, undef, undef, undef, undef, undef, undef, undef, u13, u14, u15, u16, u17, u18, u19, u20, u21, u22, u23, u24, u25, undef, undef, undef, undef, undef, undef, undef, undef, undef, undef, undef, undef, undef, undef, undef, undef, undef, undef, undef, undef, undef, undef, undef, undef, undef, undef, undef, undef, undef, undef, undef, undef, undef, undef, undef, undef, undef, undef, undef, undef, undef, undef, undef, undef, undef, undef, undef, undef, undef, undef, undef, undef, undef, undef, undef, undef, undef, undef, undef, undef, undef, undef, undef, undef, undef, undef, undef, undef, undef, undef, undef, undef, undef, undef, undef, undef, undef, undef, undef, undef, undef, undef, undef, undef, undef, undef, undef, undef, undef, undef, undef, undef, undef, undef, undef, undef, undef, undef, undef, undef, undef, undef, undef, undef, undef, undef, undef, undef, undef, undef, undef, undef, undef, undef, undef, undef, undef, undef, undef, undef, undef, undef, undef, undef, undef, undef, undef, undef, undef, undef, undef, undef, undef, undef, undef, undef, undef, undef, undef, undef, undef, undef, undef, undef, undef, undef, undef, undef, undef, undef, undef, undef, undef, undef, undef, undef, undef, undef, undef, undef, undef, undef, undef, undef, undef, undef, undef, undef, undef, undef, undef, undef, undef, undef, undef, undef, undef, undef, undef, undef, undef, undef, undef, undef, undef, undef, undef, undef, undef, undef, undef, undef, undef, undef, undef, undef, undef, undef, undef, undef, undef, undef, undef, undef, undef, undef, undef, undef, undef, undef], []⟩ X.drew := by
  clear _hC _hs _hlt _hB _hbB _hbs _hvl
  have hcl3 := hT.1.scan.row.c2 x hx1
  rw [HV.out] at hcl3
  have hsp3 := hT.1.nm_cell
  have hpl3 := hT.1.pl_cell
  have hc03 := hT.1.scan.row.c0
  have hx2 : (x : Int) < 256 := by omega
  have hX : X.heap.size = w.heap.size + 3 := by have := hT.2; simp at this; omega
  have n39 : ((x : Int) == 39) = false := by simp; omega
  have n34 : ((x : Int) == 34) = false := by simp; omega
  have HQ : Hid (¬ (bt s at_ = 39 ∨ bt s at_ = 34)) := by rw [← HB.out]; exact hnq
  clear hnq
  have i0 : decide (0 ≤ ix) = false := decide_eq_false (by omega)
  have HN : Hid (R = .bad 40 at_) := tok_none hR.out HQ.out (by rw [← HB.out]; show ¬ cls x = 4; rw [HV.out]; simpa using h4) (HST.out) (by rw [← HB.out]; show ¬ cls x = 2; rw [HV.out]; simpa using h2)
    (H3.out) (by rw [← HB.out]; simpa using h36)
  conv => arg 2; arg 1; whnf
  conv => arg 2; arg 2; arg 1; whnf
  conv => arg 2; arg 2; arg 2; arg 1; whnf
  go_wp2_with fail
  generalize World.alloc X _ = W4 at hT hcl3 hsp3 hpl3 hc03 ⊢
  refine (hI _).mono ?_
  rintro e w1 ⟨rfl, rfl⟩
  clear hI
  go_wp2_with fail
  go_quiet (fail)
  go_wp2_with fail
  have tE := tokw_err (hT.1)
  obtain ⟨t0, t1, t2, f0, f1, f2⟩ := tE
  have hple := (hT.1).pl_cell
  have HTK := Lib.hid (hT.1)
  skip
  go_region
  all_goals go_wp2
  all_goals
    refine bodyPost_ret (v := .tuple #[.agg zTok, .iface 110 (.pointer (some ⟨w.heap.size + 4, 0, none⟩))]) ?_ rfl ?_
    · exact results_row_tmp rfl _ _ (w.heap.size + 1) 27 zTok (0, 0) _ _ rfl rfl (tokw_err_heap HTK.out _ ⟨rfl, rfl, rfl, rfl⟩) Tryz.underlying27 rfl (info_tok _ rfl)
    · rw [HN.out]
      exact tokw_err_post HTK.out _ _ _ (hT.2) ⟨rfl, rfl, rfl, rfl⟩

set_option maxHeartbeats 1000000 in
set_option maxRecDepth 100000 in
theorem way_var (B b : Nat) (s : ByteArray) (at_ : Nat) (sp : List (Nat × Nat)) (v : Value) (w X : World) (R : TokR) (x : Nat) (cv ix : Int) (C : Code) (hC : TailOk B b s at_ sp v w R C) (hs : s.size ≤ 40000) (_hlt : at_ < s.size) (_hB : B ≤ w.heap.size) (_hbB : B ≤ b)
    (hx1 : x < 256) (HB : Hid ((x : Int) = bt s at_)) (HV : Hid (cls x = cv)) (hbs : b < w.heap.size) (hvl : ∀ k, v.ownBlock = some k → k < w.heap.size)
    (hT : TokW B b s at_ at_ sp v w (X.alloc (.cells #[.int .i64 0, .string ⟨#[]⟩, .int .i64 0] 27)) zTok ∧ (X.alloc (.cells #[.int .i64 0, .string ⟨#[]⟩, .int .i64 0] 27)).heap.size = w.heap.size + 4)
    (hR : Hid (tokN s at_ = R)) (hI : ∀ w, Calls Tryz.prog 68 #[.string ⟨#[115, 116, 101]⟩, .int .u8 x] w fun e w' => e = .returned (.int .i64 ix) ∧ w' = w)
    (hnq : ¬ ((x : Int) = 39 ∨ (x : Int) = 34)) (hcv : cv = 2) (HST : Hid (steB (bt s at_) = true ∧ bt s (at_ + 1) = 46)) (hix : 0 ≤ ix) (u13 u14 u15 u16 u17 u18 u19 u20 u21 u22 u23 u24 u25 : Value) :
    Code.wp Tryz.prog (.seq (cHd tokRest) (.seq (cHd (cTl tokRest)) (.seq (cHd (cTl (cTl tokRest))) C))) (bodyPost Tryz.prog Tryz.f96 (TokenPost B b s at_ sp v w R)) ⟨#[.pointer (some ⟨b, 0, none⟩), .pointer (some ⟨w.heap.size, 0, none⟩), .pointer (some ⟨w.heap.size + 1, 0, none⟩), .nilIface, .pointer (some ⟨w.heap.size + 2, 0, none⟩), .int .u8 x, undef, undef, undef, undef, undef, undef, undef, u13, u14, u15, u16, u17, u18, u19, u20, u21, u22, u23, u24, u25, undef, undef, undef, undef, undef, undef, undef, undef, undef, undef, undef, undef, undef, undef, undef, undef, undef, undef, undef, undef, undef, undef, undef, undef, undef, undef, undef, undef, undef, undef, undef, undef, undef, undef, undef, undef, undef, undef, undef, undef, undef, undef, undef, undef, undef, undef, undef, undef, undef, undef, undef, undef, undef, undef, undef, undef, undef, undef, undef, undef, undef, undef, undef, undef, undef, undef, undef, undef, undef, undef, undef, undef, undef, undef, undef, undef, undef, undef, undef, undef, undef, undef, undef, undef, undef, undef, undef, undef, undef, undef, undef, undef, undef, undef, undef, undef, undef, undef, undef, undef, undef, undef, undef, undef, undef, undef, undef, undef, undef, undef, undef, undef, undef, undef, undef, undef, undef, undef, undef, undef, undef, undef, undef, undef, undef, undef, undef, undef, undef, undef, undef, undef, undef, undef, undef, undef, undef, undef, undef, undef, undef, undef, undef, undef, undef, undef, undef, undef, undef, undef, undef, undef, undef, undef, undef, undef, undef, undef, undef, undef, undef, undef, undef, undef, undef, undef, undef, undef, undef, undef, undef, undef, undef, undef, undef, undef, undef, undef, undef, undef, undef, undef, undef, undef, undef, undef, undef, undef, undef, undef, undef, undef, undef, undef, undef, undef, undef, undef, undef, undef, undef, undef, undef, undef, undef, undef, undef, undef, undef, undef], []⟩ X.drew := by
  clear _hlt _hB _hbB
  have hcl3 := hT.1.scan.row.c2 x hx1
  rw [HV.out] at hcl3
  have hsp3 := hT.1.nm_cell
  have hpl3 := hT.1.pl_cell
  have hc03 := hT.1.scan.row.c0
  have hx2 : (x : Int) < 256 := by omega
  have hX : X.heap.size = w.heap.size + 3 := by have := hT.2; simp at this; omega
  have n39 : ((x : Int) == 39) = false := by simp; omega
  have n34 : ((x : Int) == 34) = false := by simp; omega
  have HQ : Hid (¬ (bt s at_ = 39 ∨ bt s at_ = 34)) := by rw [← HB.out]; exact hnq
  clear hnq
  obtain rfl : cv = 2 := hcv
  have HC : Hid (cls (bt s at_).toNat = 2) := by rw [← HB.out]; exact HV.out
  have hdot : (bt s (at_ + 1) == 46) = true := by simpa using HST.out.2
  have h2s : at_ + 2 ≤ s.size := by
    refine Nat.lt_of_not_le fun q => ?_
    have := HST.out.2
    rw [bt_out (by omega)] at this; exact absurd this (by decide)
  have hfin := runTo_le s (inner none8) (at_ + 2) h2s
  have hrun := fun w hw => run_any b s none8 at_ (at_ + 2) v w hs h2s hw
  rw [show ((at_ + 2 : Nat) : Int) = (at_ : Int) + 2 by omega] at hrun
  have e2 : IntKind.i64.wrap ((at_ : Int) + 2) = (at_ : Int) + 2 := IntWalk.i64_in _ (by omega)
  have HQV := Lib.hid (tok_var hR.out HQ.out (by rw [HC.out]; decide) HST.out)
  generalize runTo s (inner none8) (at_ + 2) = fin at hfin hrun HQV
  have i0 : decide (0 ≤ ix) = true := decide_eq_true hix
  conv => arg 2; arg 1; whnf
  conv => arg 2; arg 2; arg 1; whnf
  conv => arg 2; arg 2; arg 2; arg 1; whnf
  go_wp2_with fail
  generalize World.alloc X _ = W4 at hT hcl3 hsp3 hpl3 hc03 ⊢
  refine (hI _).mono ?_
  rintro e w1 ⟨rfl, rfl⟩
  clear hI
  go_wp2_with fail
  refine (next1 b s at_ v _ (by omega) (hT.1.scan.drewN 1).row).mono ?_
  rintro e w1 ⟨rfl, k1, rfl⟩
  go_wp2_with fail
  refine (hrun _ (hT.1.scan.drewN _).row).mono ?_
  rintro e w1 ⟨rfl, k2, rfl⟩
  go_wp2_with fail
  refine (take_any B b w.heap.size (w.heap.size + 2) s at_ at_ fin 5 sp v _ hs (hT.1.scan.drewN _) hT.1.nm hT.1.pl (by omega) (by omega) (by omega)).mono ?_
  rintro e w5 ⟨rfl, hsc5, hkp5⟩
  have hT5 := (hT.1.drewN _).step hkp5 hsc5 hbs
  have htx : (s.extract at_ fin).size = fin - at_ := by rw [ByteArray.size_extract]; omega
  generalize hTX : s.extract at_ fin = tx at htx ⊢
  have HTX := Lib.hid hTX.symm
  clear hTX hkp5 hsc5
  have e3 : IntKind.i64.wrap ((tx.size : Int) - 2) = (tx.size : Int) - 2 := IntWalk.i64_in _ (by omega)
  clear hrun
  go_wp2_with (refine wpList_store_row rfl 27 (.tmp 7) (.tmp 70) rfl (w.heap.size + 3) (tokCells 5 tx at_) rfl rfl 27 zTok hT5.tok (info_tok _ rfl) rfl (tok_cells _ _ _) ?_; have hT6 := hT5.setTok hbs hvl (tokCells 5 tx at_); have hc6 := hT6.tok_text; generalize w5.setRow (w.heap.size + 3) (tokCells 5 tx at_) = W6 at hT6 hc6 ⊢)
  all_goals first
    | (exact hC _ fin _ tx _ _ _ _ _ _ _ _ _ _ _ _ _ _ _ _ _ _ _ _ _ _ _ _ _ _ _ _ _ _ _ _ _ _ _ _ _ _ _ _ _ _ _ _ _ _ _ _ _ _ _ _ _ _ _ _ _ _ _ _ _ _ _ _ _ _ _ _ _ _ _ _ _ _ _ _ _ _ _ _ _ _ _ _ _ _ _ _ _ _ _ _ _ _ _ _ _ _ _ _ _ _ _ _ _ _ _ _ _ _ _ _ _ _ _ _ _ _ _ _ _ _ _ _ _ _ _ _ _ _ _ _ _ _ _ _ _ _ _ _ _ _ _ _ _ _ _ _ _ _ _ _ _ _ _ _ _ _ _ _ _ _ _ _ _ _ _ _ _ _ _ _ _ _ _ _ _ _ _ _ _ _ _ _ _ _ _ _ _ _ _ _ _ _ _ _ _ _ _ _ _ _ _ _ _ _ _ _ _ _ _ _ _ _ _ _ _ _ _ _ _ _ _ _ _ _ _ _ _ _ _ _ _ (by have h := HQV.out; rwa [if_neg (by omega)] at h) HTX hT6 hT6.lt)
    | (
      have tE := tokw_err (hT6)
      obtain ⟨t0, t1, t2, f0, f1, f2⟩ := tE
      have hple := (hT6).pl_cell
      have HTK := Lib.hid (hT6)
      have hlt6 : w.heap.size + 1 < W6.heap.size := by have := hT6.lt; omega
      go_region
      all_goals go_wp2
      all_goals
        refine bodyPost_ret (v := .tuple #[.agg zTok, .iface 110 (.pointer (some ⟨W6.heap.size, 0, none⟩))]) ?_ rfl ?_
        · exact results_row_tmp rfl _ _ (w.heap.size + 1) 27 zTok (0, 0) _ _ rfl rfl (tokw_err_heap HTK.out _ ⟨rfl, rfl, rfl, rfl⟩) Tryz.underlying27 rfl (info_tok _ rfl)
        · rw [(by have h := HQV.out; rw [if_pos (by omega)] at h; exact h.symm : R = .bad 43 at_)]
          exact tokw_err_post HTK.out _ _ _ (rfl) ⟨rfl, rfl, rfl, rfl⟩
      )

set_option maxHeartbeats 1000000 in
set_option maxRecDepth 100000 in
theorem way_namea (B b : Nat) (s : ByteArray) (at_ : Nat) (sp : List (Nat × Nat)) (v : Value) (w X : World) (R : TokR) (x : Nat) (cv ix : Int) (C : Code) (hC : TailOk B b s at_ sp v w R C) (hs : s.size ≤ 40000) (hlt : at_ < s.size) (_hB : B ≤ w.heap.size) (_hbB : B ≤ b)
    (hx1 : x < 256) (HB : Hid ((x : Int) = bt s at_)) (HV : Hid (cls x = cv)) (hbs : b < w.heap.size) (hvl : ∀ k, v.ownBlock = some k → k < w.heap.size)
    (hT : TokW B b s at_ at_ sp v w (X.alloc (.cells #[.int .i64 0, .string ⟨#[]⟩, .int .i64 0] 27)) zTok ∧ (X.alloc (.cells #[.int .i64 0, .string ⟨#[]⟩, .int .i64 0] 27)).heap.size = w.heap.size + 4)
    (hR : Hid (tokN s at_ = R)) (hI : ∀ w, Calls Tryz.prog 68 #[.string ⟨#[115, 116, 101]⟩, .int .u8 x] w fun e w' => e = .returned (.int .i64 ix) ∧ w' = w)
    (hnq : ¬ ((x : Int) = 39 ∨ (x : Int) = 34)) (hcv : cv = 2) (HST : Hid (¬ (steB (bt s at_) = true ∧ bt s (at_ + 1) = 46))) (hix : ix < 0) (u13 u14 u15 u16 u17 u18 u19 u20 u21 u22 u23 u24 u25 : Value) :
    Code.wp Tryz.prog (.seq (cHd tokRest) (.seq (cHd (cTl tokRest)) (.seq (cHd (cTl (cTl tokRest))) C))) (bodyPost Tryz.prog Tryz.f96 (TokenPost B b s at_ sp v w R)) ⟨#[.pointer (some ⟨b, 0, none⟩), .pointer (some ⟨w.heap.size, 0, none⟩), .pointer (some ⟨w.heap.size + 1, 0, none⟩), .nilIface, .pointer (some ⟨w.heap.size + 2, 0, none⟩), .int .u8 x, undef, undef, undef, undef, undef, undef, undef, u13, u14, u15, u16, u17, u18, u19, u20, u21, u22, u23, u24, u25, undef, undef, undef, undef, undef, undef, undef, undef, undef, undef, undef, undef, undef, undef, undef, undef, undef, undef, undef, undef, undef, undef, undef, undef, undef, undef, undef, undef, undef, undef, undef, undef, undef, undef, undef, undef, undef, undef, undef, undef, undef, undef, undef, undef, undef, undef, undef, undef, undef, undef, undef, undef, undef, undef, undef, undef, undef, undef, undef, undef, undef, undef, undef, undef, undef, undef, undef, undef, undef, undef, undef, undef, undef, undef, undef, undef, undef, undef, undef, undef, undef, undef, undef, undef, undef, undef, undef, undef, undef, undef, undef, undef, undef, undef, undef, undef, undef, undef, undef, undef, undef, undef, undef, undef, undef, undef, undef, undef, undef, undef, undef, undef, undef, undef, undef, undef, undef, undef, undef, undef, undef, undef, undef, undef, undef, undef, undef, undef, undef, undef, undef, undef, undef, undef, undef, undef, undef, undef, undef, undef, undef, undef, undef, undef, undef, undef, undef, undef, undef, undef, undef, undef, undef, undef, undef, undef, undef, undef, undef, undef, undef, undef, undef, undef, undef, undef, undef, undef, undef, undef, undef, undef, undef, undef, undef, undef, undef, undef, undef, undef, undef, undef, undef, undef, undef, undef, undef, undef, undef, undef, undef, undef, undef, undef, undef, undef, undef, undef, undef, undef, undef, undef, undef, undef, undef, undef, undef, undef, undef, undef], []⟩ X.drew := by
  clear _hB _hbB
  have hcl3 := hT.1.scan.row.c2 x hx1
  rw [HV.out] at hcl3
  have hsp3 := hT.1.nm_cell
  have hpl3 := hT.1.pl_cell
  have hc03 := hT.1.scan.row.c0
  have hx2 : (x : Int) < 256 := by omega
  have hX : X.heap.size = w.heap.size + 3 := by have := hT.2; simp at this; omega
  have n39 : ((x : Int) == 39) = false := by simp; omega
  have n34 : ((x : Int) == 34) = false := by simp; omega
  have HQ : Hid (¬ (bt s at_ = 39 ∨ bt s at_ = 34)) := by rw [← HB.out]; exact hnq
  clear hnq
  obtain rfl : cv = 2 := hcv
  have HC : Hid (cls (bt s at_).toNat = 2) := by rw [← HB.out]; exact HV.out
  have hfin := runTo_le s (inner dashes) at_ (by omega)
  have hrun := fun w hw => run_any b s dashes at_ at_ v w hs (by omega) hw
  have HQV := Lib.hid (tok_name hR.out HQ.out HST.out HC.out)
  generalize runTo s (inner dashes) at_ = fin at hfin hrun HQV
  have i0 : decide (0 ≤ ix) = false := decide_eq_false (by omega)
  conv => arg 2; arg 1; whnf
  conv => arg 2; arg 2; arg 1; whnf
  conv => arg 2; arg 2; arg 2; arg 1; whnf
  go_wp2_with fail
  generalize World.alloc X _ = W4 at hT hcl3 hsp3 hpl3 hc03 ⊢
  refine (hI _).mono ?_
  rintro e w1 ⟨rfl, rfl⟩
  clear hI
  go_wp2_with fail
  refine (hrun _ (hT.1.scan.drewN _).row).mono ?_
  rintro e w1 ⟨rfl, k2, rfl⟩
  go_wp2_with fail
  refine (take_any B b w.heap.size (w.heap.size + 2) s at_ at_ fin 3 sp v _ hs (hT.1.scan.drewN _) hT.1.nm hT.1.pl (by omega) (by omega) (by omega)).mono ?_
  rintro e w5 ⟨rfl, hsc5, hkp5⟩
  have hT5 := (hT.1.drewN _).step hkp5 hsc5 hbs
  have htx : (s.extract at_ fin).size = fin - at_ := by rw [ByteArray.size_extract]; omega
  generalize hTX : s.extract at_ fin = tx at htx ⊢
  have HTX := Lib.hid hTX.symm
  clear hTX hkp5 hsc5
  clear hrun
  go_wp2_with (refine wpList_store_row rfl 27 (.tmp 7) (.tmp 93) rfl (w.heap.size + 3) (tokCells 3 tx at_) rfl rfl 27 zTok hT5.tok (info_tok _ rfl) rfl (tok_cells _ _ _) ?_; have hT6 := hT5.setTok hbs hvl (tokCells 3 tx at_); have hc6 := hT6.tok_text; generalize w5.setRow (w.heap.size + 3) (tokCells 3 tx at_) = W6 at hT6 hc6 ⊢)
  all_goals first
    | (exact hC _ fin _ tx _ _ _ _ _ _ _ _ _ _ _ _ _ _ _ _ _ _ _ _ _ _ _ _ _ _ _ _ _ _ _ _ _ _ _ _ _ _ _ _ _ _ _ _ _ _ _ _ _ _ _ _ _ _ _ _ _ _ _ _ _ _ _ _ _ _ _ _ _ _ _ _ _ _ _ _ _ _ _ _ _ _ _ _ _ _ _ _ _ _ _ _ _ _ _ _ _ _ _ _ _ _ _ _ _ _ _ _ _ _ _ _ _ _ _ _ _ _ _ _ _ _ _ _ _ _ _ _ _ _ _ _ _ _ _ _ _ _ _ _ _ _ _ _ _ _ _ _ _ _ _ _ _ _ _ _ _ _ _ _ _ _ _ _ _ _ _ _ _ _ _ _ _ _ _ _ _ _ _ _ _ _ _ _ _ _ _ _ _ _ _ _ _ _ _ _ _ _ _ _ _ _ _ _ _ _ _ _ _ _ _ _ _ _ _ _ _ _ _ _ _ _ _ _ _ _ _ _ _ _ _ _ _ (by have h := HQV.out; rwa [if_neg (by omega)] at h) HTX hT6 hT6.lt)
    | (
      have tE := tokw_err (hT6)
      obtain ⟨t0, t1, t2, f0, f1, f2⟩ := tE
      have hple := (hT6).pl_cell
      have HTK := Lib.hid (hT6)
      have hlt6 : w.heap.size + 1 < W6.heap.size := by have := hT6.lt; omega
      go_region
      all_goals go_wp2
      all_goals
        refine bodyPost_ret (v := .tuple #[.agg zTok, .iface 110 (.pointer (some ⟨W6.heap.size, 0, none⟩))]) ?_ rfl ?_
        · exact results_row_tmp rfl _ _ (w.heap.size + 1) 27 zTok (0, 0) _ _ rfl rfl (tokw_err_heap HTK.out _ ⟨rfl, rfl, rfl, rfl⟩) Tryz.underlying27 rfl (info_tok _ rfl)
        · rw [(by have h := HQV.out; rw [if_pos (by omega)] at h; exact h.symm : R = .bad 43 at_)]
          exact tokw_err_post HTK.out _ _ _ (rfl) ⟨rfl, rfl, rfl, rfl⟩
      )

set_option maxHeartbeats 1000000 in
set_option maxRecDepth 100000 in
theorem way_nameb (B b : Nat) (s : ByteArray) (at_ : Nat) (sp : List (Nat × Nat)) (v : Value) (w X : World) (R : TokR) (x : Nat) (cv ix : Int) (C : Code) (hC : TailOk B b s at_ sp v w R C) (hs : s.size ≤ 40000) (hlt : at_ < s.size) (_hB : B ≤ w.heap.size) (_hbB : B ≤ b)
    (hx1 : x < 256) (HB : Hid ((x : Int) = bt s at_)) (HV : Hid (cls x = cv)) (hbs : b < w.heap.size) (hvl : ∀ k, v.ownBlock = some k → k < w.heap.size)
    (hT : TokW B b s at_ at_ sp v w (X.alloc (.cells #[.int .i64 0, .string ⟨#[]⟩, .int .i64 0] 27)) zTok ∧ (X.alloc (.cells #[.int .i64 0, .string ⟨#[]⟩, .int .i64 0] 27)).heap.size = w.heap.size + 4)
    (hR : Hid (tokN s at_ = R)) (hI : ∀ w, Calls Tryz.prog 68 #[.string ⟨#[115, 116, 101]⟩, .int .u8 x] w fun e w' => e = .returned (.int .i64 ix) ∧ w' = w)
    (hnq : ¬ ((x : Int) = 39 ∨ (x : Int) = 34)) (hcv : cv = 2) (HST : Hid (¬ (steB (bt s at_) = true ∧ bt s (at_ + 1) = 46))) (hix : 0 ≤ ix) (hdot : (bt s (at_ + 1) == 46) = false) (u13 u14 u15 u16 u17 u18 u19 u20 u21 u22 u23 u24 u25 : Value) :
    Code.wp Tryz.prog (.seq (cHd tokRest) (.seq (cHd (cTl tokRest)) (.seq (cHd (cTl (cTl tokRest))) C))) (bodyPost Tryz.prog Tryz.f96 (TokenPost B b s at_ sp v w R)) ⟨#[.pointer (some ⟨b, 0, none⟩), .pointer (some ⟨w.heap.size, 0, none⟩), .pointer (some ⟨w.heap.size + 1, 0, none⟩), .nilIface, .pointer (some ⟨w.heap.size + 2, 0, none⟩), .int .u8 x, undef, undef, undef, undef, undef, undef, undef, u13, u14, u15, u16, u17, u18, u19, u20, u21, u22, u23, u24, u25, undef, undef, undef, undef, undef, undef, undef, undef, undef, undef, undef, undef, undef, undef, undef, undef, undef, undef, undef, undef, undef, undef, undef, undef, undef, undef, undef, undef, undef, undef, undef, undef, undef, undef, undef, undef, undef, undef, undef, undef, undef, undef, undef, undef, undef, undef, undef, undef, undef, undef, undef, undef, undef, undef, undef, undef, undef, undef, undef, undef, undef, undef, undef, undef, undef, undef, undef, undef, undef, undef, undef, undef, undef, undef, undef, undef, undef, undef, undef, undef, undef, undef, undef, undef, undef, undef, undef, undef, undef, undef, undef, undef, undef, undef, undef, undef, undef, undef, undef, undef, undef, undef, undef, undef, undef, undef, undef, undef, undef, undef, undef, undef, undef, undef, undef, undef, undef, undef, undef, undef, undef, undef, undef, undef, undef, undef, undef, undef, undef, undef, undef, undef, undef, undef, undef, undef, undef, undef, undef, undef, undef, undef, undef, undef, undef, undef, undef, undef, undef, undef, undef, undef, undef, undef, undef, undef, undef, undef, undef, undef, undef, undef, undef, undef, undef, undef, undef, undef, undef, undef, undef, undef, undef, undef, undef, undef, undef, undef, undef, undef, undef, undef, undef, undef, undef, undef, undef, undef, undef, undef, undef, undef, undef, undef, undef, undef, undef, undef, undef, undef, undef, undef, undef, undef, undef, undef, undef, undef, undef, undef], []⟩ X.drew := by
  clear _hB _hbB
  have hcl3 := hT.1.scan.row.c2 x hx1
  rw [HV.out] at hcl3
  have hsp3 := hT.1.nm_cell
  have hpl3 := hT.1.pl_cell
  have hc03 := hT.1.scan.row.c0
  have hx2 : (x : Int) < 256 := by omega
  have hX : X.heap.size = w.heap.size + 3 := by have := hT.2; simp at this; omega
  have n39 : ((x : Int) == 39) = false := by simp; omega
  have n34 : ((x : Int) == 34) = false := by simp; omega
  have HQ : Hid (¬ (bt s at_ = 39 ∨ bt s at_ = 34)) := by rw [← HB.out]; exact hnq
  clear hnq
  obtain rfl : cv = 2 := hcv
  have HC : Hid (cls (bt s at_).toNat = 2) := by rw [← HB.out]; exact HV.out
  have hfin := runTo_le s (inner dashes) at_ (by omega)
  have hrun := fun w hw => run_any b s dashes at_ at_ v w hs (by omega) hw
  have HQV := Lib.hid (tok_name hR.out HQ.out HST.out HC.out)
  generalize runTo s (inner dashes) at_ = fin at hfin hrun HQV
  have i0 : decide (0 ≤ ix) = true := decide_eq_true hix
  conv => arg 2; arg 1; whnf
  conv => arg 2; arg 2; arg 1; whnf
  conv => arg 2; arg 2; arg 2; arg 1; whnf
  go_wp2_with fail
  generalize World.alloc X _ = W4 at hT hcl3 hsp3 hpl3 hc03 ⊢
  refine (hI _).mono ?_
  rintro e w1 ⟨rfl, rfl⟩
  clear hI
  go_wp2_with fail
  refine (next1 b s at_ v _ (by omega) (hT.1.scan.drewN 1).row).mono ?_
  rintro e w1 ⟨rfl, k1, rfl⟩
  go_wp2_with fail
  refine (hrun _ (hT.1.scan.drewN _).row).mono ?_
  rintro e w1 ⟨rfl, k2, rfl⟩
  go_wp2_with fail
  refine (take_any B b w.heap.size (w.heap.size + 2) s at_ at_ fin 3 sp v _ hs (hT.1.scan.drewN _) hT.1.nm hT.1.pl (by omega) (by omega) (by omega)).mono ?_
  rintro e w5 ⟨rfl, hsc5, hkp5⟩
  have hT5 := (hT.1.drewN _).step hkp5 hsc5 hbs
  have htx : (s.extract at_ fin).size = fin - at_ := by rw [ByteArray.size_extract]; omega
  generalize hTX : s.extract at_ fin = tx at htx ⊢
  have HTX := Lib.hid hTX.symm
  clear hTX hkp5 hsc5
  clear hrun
  go_wp2_with (refine wpList_store_row rfl 27 (.tmp 7) (.tmp 93) rfl (w.heap.size + 3) (tokCells 3 tx at_) rfl rfl 27 zTok hT5.tok (info_tok _ rfl) rfl (tok_cells _ _ _) ?_; have hT6 := hT5.setTok hbs hvl (tokCells 3 tx at_); have hc6 := hT6.tok_text; generalize w5.setRow (w.heap.size + 3) (tokCells 3 tx at_) = W6 at hT6 hc6 ⊢)
  all_goals first
    | (exact hC _ fin _ tx _ _ _ _ _ _ _ _ _ _ _ _ _ _ _ _ _ _ _ _ _ _ _ _ _ _ _ _ _ _ _ _ _ _ _ _ _ _ _ _ _ _ _ _ _ _ _ _ _ _ _ _ _ _ _ _ _ _ _ _ _ _ _ _ _ _ _ _ _ _ _ _ _ _ _ _ _ _ _ _ _ _ _ _ _ _ _ _ _ _ _ _ _ _ _ _ _ _ _ _ _ _ _ _ _ _ _ _ _ _ _ _ _ _ _ _ _ _ _ _ _ _ _ _ _ _ _ _ _ _ _ _ _ _ _ _ _ _ _ _ _ _ _ _ _ _ _ _ _ _ _ _ _ _ _ _ _ _ _ _ _ _ _ _ _ _ _ _ _ _ _ _ _ _ _ _ _ _ _ _ _ _ _ _ _ _ _ _ _ _ _ _ _ _ _ _ _ _ _ _ _ _ _ _ _ _ _ _ _ _ _ _ _ _ _ _ _ _ _ _ _ _ _ _ _ _ _ _ _ _ _ _ _ (by have h := HQV.out; rwa [if_neg (by omega)] at h) HTX hT6 hT6.lt)
    | (
      have tE := tokw_err (hT6)
      obtain ⟨t0, t1, t2, f0, f1, f2⟩ := tE
      have hple := (hT6).pl_cell
      have HTK := Lib.hid (hT6)
      have hlt6 : w.heap.size + 1 < W6.heap.size := by have := hT6.lt; omega
      go_region
      all_goals go_wp2
      all_goals
        refine bodyPost_ret (v := .tuple #[.agg zTok, .iface 110 (.pointer (some ⟨W6.heap.size, 0, none⟩))]) ?_ rfl ?_
        · exact results_row_tmp rfl _ _ (w.heap.size + 1) 27 zTok (0, 0) _ _ rfl rfl (tokw_err_heap HTK.out _ ⟨rfl, rfl, rfl, rfl⟩) Tryz.underlying27 rfl (info_tok _ rfl)
        · rw [(by have h := HQV.out; rw [if_pos (by omega)] at h; exact h.symm : R = .bad 43 at_)]
          exact tokw_err_post HTK.out _ _ _ (rfl) ⟨rfl, rfl, rfl, rfl⟩
      )

end Go.Proofs.YtmapaagdaojpaaaGreatDoor
