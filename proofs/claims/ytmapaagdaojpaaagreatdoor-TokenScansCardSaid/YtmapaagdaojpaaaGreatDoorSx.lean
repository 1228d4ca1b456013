/- same: are two lists of tokens equal? Here: where they are, it says so. The reference's Scan = scanN. The reference's Strip = stripB of scanN. Texts of more than 40000 bytes. The law TokenScans: its walk, over what awake says. -/
import Derived.Test.YtmapaagdaojpaaaGreatDoorAl
import Derived.Test.YtmapaagdaojpaaaGreatDoorOx
import Derived.Test.YtmapaagdaojpaaaGreatDoorScw
import Derived.Test.YtmapaagdaojpaaaGreatDoorRg
import Derived.Test.YtmapaagdaojpaaaGreatDoorStp
import Derived.Test.YtmapaagdaojpaaaGreatDoorScan
import Derived.Test.YtmapaagdaojpaaaGreatDoorStrip
import Derived.Test.YtmapaagdaojpaaaGreatDoorAwx
namespace Go.Proofs.YtmapaagdaojpaaaGreatDoor
open Go.RowKit

set_option maxHeartbeats 400000 in
theorem sameF_any (kind : Int) (text : ByteArray) (a : Int) (w : World) :
    Calls Tryz.prog 56 #[.agg #[.int .i64 kind, .string text, .int .i64 a], .agg #[.int .i64 kind, .string text, .int .i64 a]] w fun e w' => e = .returned (.bool true) ∧ Below w.heap.size w w' := by
  go_enter Tryz.func56, Tryz.ntmps56
  go_wp2
  go_ret
  exact ⟨rfl, (below_alloc1 w _).alloc (by simp) _⟩
set_option maxHeartbeats 2000000 in
set_option maxRecDepth 100000 in
theorem EqualBoth_any (l : List Ti) (ao bo : Option Addr) (cap cap2 : Nat) (w : World) (hl : TiRow ao l w) (hm : TiRow bo l w) (hll : l.length ≤ 40000) :
    Calls Tryz.prog 55 #[.slice ao l.length cap, .slice bo l.length cap2, .func (.func 56) #[] #[]] w fun e w' => e = .returned (.bool true) ∧ Below w.heap.size w w' := by
  have HL := Lib.hid hl
  have HM := Lib.hid hm
  clear hl hm
  go_enter Tryz.func55, Tryz.ntmps55
  go_wp2
  go_loopw [17] (fun i wr => ∃ k : Nat, k ≤ l.length ∧ i = .int .i64 k ∧ Hid (Below w.heap.size w wr)) (fun i _ => l.length - (intOf i).toNat)
  case atStart => exact ⟨0, Nat.zero_le _, rfl, Lib.hid (Below.refl _ _)⟩
  case round =>
    obtain ⟨k, hk, rfl, HW⟩ := hrel
    by_cases hlt : k < l.length
    · have l0 : decide ((k : Int) < (l.length : Int)) = true := decide_eq_true (by omega)
      have wk : IntKind.i64.wrap ((k : Int) + 1) = k + 1 := IntWalk.i64_in _ (by omega)
      obtain ⟨g, off, rfl, hgl, hcells⟩ := HL.out (by intro q; subst q; simp at hlt)
      obtain ⟨q0, q1, q2⟩ := hcells k hlt
      obtain ⟨g', off', rfl, hgl', hcells'⟩ := HM.out (by intro q; subst q; simp at hlt)
      obtain ⟨q0', q1', q2'⟩ := hcells' k hlt
      have r0 := (HW.out.cell (p := ⟨g, off + k * 3, none⟩) hgl).trans q0
      have r1 := (HW.out.cell (p := ⟨g, off + k * 3 + 1, none⟩) hgl).trans q1
      have r2 := (HW.out.cell (p := ⟨g, off + k * 3 + 2, none⟩) hgl).trans q2
      have s0 := (HW.out.cell (p := ⟨g', off' + k * 3, none⟩) hgl').trans q0'
      have s1 := (HW.out.cell (p := ⟨g', off' + k * 3 + 1, none⟩) hgl').trans q1'
      have s2 := (HW.out.cell (p := ⟨g', off' + k * 3 + 2, none⟩) hgl').trans q2'
      have hgw : g < wr.heap.size := Nat.lt_of_lt_of_le hgl HW.out.size
      have hgw' : g' < wr.heap.size := Nat.lt_of_lt_of_le hgl' HW.out.size
      clear q0 q1 q2 hcells q0' q1' q2' hcells'
      generalize l[k] = x at r0 r1 r2 s0 s1 s2
      obtain ⟨kind, text, at_⟩ := x
      dsimp only at r0 r1 r2 s0 s1 s2
      have hF := fun w => sameF_any kind text at_ w
      go_wp2_with (go_at_call 56; refine (hF _).mono ?_; rintro e w' ⟨rfl, hb⟩)
      go_roundw
      case rel => exact ⟨k + 1, by omega, by go_num, Lib.hid ((HW.out.alloc (by have := HW.out.size; omega) _).alloc (by have := HW.out.size; simp; omega) _ |>.trans (hb.mono (by have := HW.out.size; simp; omega)))⟩
      case measure => simp [intOf]; omega
    · have l0 : decide ((k : Int) < (l.length : Int)) = false := decide_eq_false (by omega)
      go_wp2
      go_ret
      exact ⟨rfl, HW.out⟩
theorem same_any (l : List Ti) (ao bo : Option Addr) (cap cap2 : Nat) (w : World) (hl : TiRow ao l w) (hm : TiRow bo l w) (hll : l.length ≤ 40000) :
    Calls Tryz.prog 23 #[.slice ao l.length cap, .slice bo l.length cap2] w fun e w' => e = .returned (.bool true) ∧ Below w.heap.size w w' := by
  have hE := EqualBoth_any l ao bo cap cap2 w hl hm hll
  clear hl hm
  go_enter Tryz.func23, Tryz.ntmps23
  go_wp2_with (go_at_call 55; refine hE.mono ?_; rintro e w1 ⟨rfl, hb⟩)
  go_ret
  exact ⟨rfl, hb⟩
end Go.Proofs.YtmapaagdaojpaaaGreatDoor
namespace Go.Proofs.YtmapaagdaojpaaaGreatDoor
open Go.RowKit

theorem info_rtok2 : (Tryz.prog.info? 32).map (fun i => (i.zero, i.size, i.bytes)) = some (some (.agg #[.int .i64 0, .string ⟨#[]⟩, .int .i64 0]), 3, 32) := by kernel_rfl
def rScanOut (w : World) (R : ScanR) (e : Ending) (W' : World) : Prop :=
  Below w.heap.size w W' ∧ match R with
  | .bad c x => e = .returned (.tuple #[.slice none 0 0, .int .i64 x, .int .i64 c])
  | .ok m _ => ∃ vo, e = .returned (.tuple #[vo, .int .i64 0, .int .i64 0]) ∧ W'.ownsRow w.heap.size 32 3 vo m.length (tkCells m)
theorem skip_err_ge (s : ByteArray) : ∀ (n i : Nat) (sp : List (Nat × Nat)) (x : Nat), i ≤ s.size → skipN s n i sp = .err x → i ≤ x ∧ x < s.size
  | 0, i, sp, x, _, h => by simp [skipN] at h
  | n + 1, i, sp, x, hi, h => by
    unfold skipN at h
    split at h
    · rename_i hlt
      split at h
      · have := skip_err_ge s n _ _ x hlt h; omega
      · split at h
        · rename_i hst
          have hl := star_lt' hlt hst
          have := skip_err_ge s n _ _ x hl.2 h; omega
        · split at h
          · split at h
            · cases h; omega
            · rename_i e he
              have hl := comN_le s _ _ _ he
              have := skip_err_ge s n _ _ x hl.2 h; omega
          · cases h
    · cases h
theorem tok_bad_ge {s : ByteArray} {i x : Nat} {c : Int} (hi : i < s.size) (h : tokN s i = .bad c x) : i ≤ x ∧ x ≤ s.size := by
  have hn : ∀ {k : Int} {a b : Nat}, i ≤ b → b ≤ s.size → near s k a b = .bad c x → i ≤ x ∧ x ≤ s.size := fun h1 h2 h => by
    unfold near at h; split at h
    · cases h; exact ⟨h1, h2⟩
    · cases h
  unfold tokN at h
  split at h
  · unfold quoR at h
    split at h
    · cases h; omega
    · split at h
      · cases h
      · split at h
        · cases h; omega
        · cases h
  · split at h
    · cases h
    · split at h
      · rename_i hv
        have h1 : i + 1 < s.size := Nat.lt_of_not_le fun q => by rw [bt_out q] at hv; exact absurd hv.2 (by decide)
        have hl := runTo_le s (inner none8) (i + 2) (by omega)
        split at h
        · cases h; omega
        · exact hn (by omega) hl.2 h
      · split at h
        · have hl := runTo_le s (inner dashes) i (by omega)
          split at h
          · cases h; omega
          · exact hn hl.1 hl.2 h
        · split at h
          · have hl := runTo_le s (fun c => cls c.toNat == 3) (i + 1) (by omega)
            split at h
            · exact hn (by unfold digE; omega) (by unfold digE; omega) h
            · cases h; omega
          · split at h
            · have hl := runTo_le s (inner dashes) (i + 1) (by omega)
              generalize hE : (if cls (bt s (i + 1)).toNat = 2 then runTo s (inner dashes) (i + 1) else i + 1) = E at h
              have hE2 : i ≤ E ∧ E ≤ s.size := by subst hE; split <;> omega
              split at h
              · exact hn hE2.1 hE2.2 h
              · cases h; omega
            · cases h; omega
/-- Behind a gap, at place k: what is still to come. -/
def Aft (s : ByteArray) (k : Nat) (acc : List Tk) (R : ScanR) : Prop := ∃ n sp, s.size - k ≤ n ∧ ((k = s.size ∧ R = .ok acc sp) ∨ (k < s.size ∧ (∀ c x, tokN s k = .bad c x → R = .bad c x) ∧ ∀ kind text fin, tokN s k = .ok kind text fin → toksN s n fin sp (acc ++ [⟨kind, text, k⟩]) = R))
theorem tok_state {s : ByteArray} {n i : Nat} {sp : List (Nat × Nat)} {acc : List Tk} {R : ScanR} (hi : i ≤ s.size) (hn : s.size - i < n) (h : toksN s n i sp acc = R) :
    ∃ X A C : Int, SkipAt s (X, A, C) i ∧ ∃ k : Nat, X = k ∧ i ≤ k ∧ k ≤ s.size ∧ ((C = 0 ∧ A = 0 ∧ Aft s k acc R) ∨ (C = 42 ∧ A = k ∧ R = .bad 42 k)) := by
  obtain ⟨n, rfl⟩ : ∃ m, n = m + 1 := ⟨n - 1, by omega⟩
  cases hs : skipN s (s.size + 1) i sp with
  | err x =>
    have hx := skip_err_ge s _ _ _ _ hi hs
    exact ⟨x, x, 42, ⟨s.size + 1, sp, by omega, by rw [hs]; rfl⟩, x, rfl, hx.1, by omega, .inr ⟨rfl, rfl, toks_com h hs⟩⟩
  | ok j sp' =>
    have hj := skip_le s _ _ _ _ _ hi hs
    refine ⟨j, 0, 0, ⟨s.size + 1, sp, by omega, by rw [hs]; rfl⟩, j, rfl, hj.1, hj.2, .inl ⟨rfl, rfl, n, sp', by omega, ?_⟩⟩
    by_cases hjs : j = s.size
    · exact .inl ⟨hjs, toks_end h hs hjs⟩
    · exact .inr ⟨by omega, fun c x ht => toks_bad h hs hjs ht, fun kind text fin ht => toks_next h hs hjs ht⟩
/-- Between two rounds: the error's block p, the list. -/
structure RsW (w : World) (p : Nat) (acc : List Tk) (A C : Int) (vv : Value) (wr : World) : Prop where
  below : Below w.heap.size w wr
  err : wr.heap[p]? = some (.cells (eCells A C) 86 (0, 0))
  own : wr.ownsRow w.heap.size 32 3 vv acc.length (tkCells acc)
theorem RsW.keep {w wr w1 : World} {p : Nat} {acc : List Tk} {A C : Int} {vv : Value} (h : RsW w p acc A C vv wr) (hb : Below wr.heap.size wr w1) : RsW w p acc A C vv w1 :=
  ⟨h.below.trans (hb.mono h.below.size), (hb.block _ (Array.getElem?_eq_some_iff.1 h.err).1).trans h.err, (Keep.of_below (S := fun _ => False) hb).owns h.own (fun _ _ q => q)⟩
theorem RsW.setE {w wr : World} {p : Nat} {acc : List Tk} {A C A' C' : Int} {vv : Value} (h : RsW w p acc A C vv wr) (hp : w.heap.size ≤ p) : RsW w p acc A' C' vv (wr.setRow p (eCells A' C')) := by
  have hk : Keep (fun k => k = p) wr (wr.setRow p (eCells A' C')) := ⟨rfl, rfl, rfl, by simp, fun k _ n => setRow_other _ _ _ _ n⟩
  refine ⟨h.below.trans (hk.below h.below.size (fun k hk e => by omega)), setRow_heap _ _ _ _ _ _ h.err, hk.owns h.own (fun k hk e => ?_)⟩
  obtain ⟨c, hc⟩ := ownsRow_type h.own hk
  rw [e, h.err] at hc
  cases hc
theorem RsW.setG {w wr : World} {p g : Nat} {acc : List Tk} {A C : Int} {vv : Value} (h : RsW w p acc A C vv wr) (hg : p ≠ g) (ho : ∀ k, vv.ownBlock = some k → k ≠ g) (hw : w.heap.size ≤ g) (cs : Array Value) : RsW w p acc A C vv (wr.setRow g cs) := by
  have hk : Keep (fun k => k = g) wr (wr.setRow g cs) := ⟨rfl, rfl, rfl, by simp, fun k _ n => setRow_other _ _ _ _ n⟩
  exact ⟨h.below.trans (hk.below h.below.size (fun k hk e => by omega)), (setRow_other _ _ _ _ hg).trans h.err, hk.owns h.own (fun k hk e => ho k hk e)⟩
theorem RsW.c0 {w wr : World} {p : Nat} {acc : List Tk} {A C : Int} {vv : Value} (h : RsW w p acc A C vv wr) : wr.cell? ⟨p, 0, none⟩ = some (.int .i64 A) := by simp [World.cell?, h.err, eCells]
theorem RsW.c1 {w wr : World} {p : Nat} {acc : List Tk} {A C : Int} {vv : Value} (h : RsW w p acc A C vv wr) : wr.cell? ⟨p, 1, none⟩ = some (.int .i64 C) := by simp [World.cell?, h.err, eCells]
theorem RsW.push {w U w5 : World} {o : Obj} {p gg cap3 : Nat} {acc : List Tk} {A C : Int} {vv : Value} (h : RsW w p acc A C vv U) (x : Tk)
    (h1 : w5.ownsRow w.heap.size 32 3 (.slice (some ⟨gg, 0, none⟩) (acc.length + 1) cap3) (acc.length + 1) (tkCells acc ++ [.int .i64 x.kind, .string x.text, .int .i64 x.at_])) (hg : (U.alloc o).grownBy w5 vv.ownBlock) :
    RsW w p (acc ++ [x]) A C (.slice (some ⟨gg, 0, none⟩) (acc.length + 1) cap3) w5 := by
  have hs := h.below.size
  have hpl := (Array.getElem?_eq_some_iff.1 h.err).1
  refine ⟨(h.below.alloc hs o).grown hg (by simp; omega) (fun k hk => (h.own.lt k hk).1), ?_, ?_⟩
  · refine (hg.block p (by simp; omega) (fun e => ?_)).trans ((Below.heap_alloc U o p hpl).trans h.err)
    obtain ⟨c, hc⟩ := ownsRow_type h.own e.symm
    rw [h.err] at hc; cases hc
  · rw [List.length_append, List.length_singleton, tkCells_snoc]; exact h1
theorem rt_c {U : World} {g : Nat} {k a : Int} {t : ByteArray} {ty : TypeId} (h : U.heap[g]? = some (.cells (rtCells k t a) ty (0, 0))) :
    U.cell? ⟨g, 0, none⟩ = some (.int .i64 k) ∧ U.cell? ⟨g, 1, none⟩ = some (.string t) ∧ U.cell? ⟨g, 2, none⟩ = some (.int .i64 a) := by simp [World.cell?, h, rtCells]
/-- One for a round that goes on, none for an error. -/
def errM (p : Nat) (w : World) : Nat := match w.cell? ⟨p, 1, none⟩ with
  | some (.int _ c) => if c = 0 then 1 else 0
  | _ => 0
theorem RsW.errM {w wr : World} {p : Nat} {acc : List Tk} {A C : Int} {vv : Value} (h : RsW w p acc A C vv wr) : errM p wr = if C = 0 then 1 else 0 := by
  unfold Go.Proofs.YtmapaagdaojpaaaGreatDoor.errM
  have : wr.cell? ⟨p, 1, none⟩ = some (.int .i64 C) := by simp [World.cell?, h.err, eCells]
  rw [this]
set_option maxHeartbeats 8000000 in
set_option maxRecDepth 100000 in
theorem rScan_any (s : ByteArray) (w : World) (hs : s.size ≤ 40000) :
    Calls Tryz.prog 20 #[.string s] w (rScanOut w (scanN s)) := by
  have hT : toksN s (s.size + 1) 0 [] [] = scanN s := by unfold scanN; rw [if_neg (by omega)]
  obtain ⟨X, A, C, hSk, k0, rfl, hk0, hk1, hst⟩ := tok_state (Nat.zero_le _) (by omega) hT
  generalize scanN s = R at hst
  have hS0 := fun w => rskip_any s 0 w (by omega) (Nat.zero_le _) k0 A C hSk
  have HST := Lib.hid hst
  have d0 : decide ((40000 : Int) < (s.size : Int)) = false := decide_eq_false (by omega)
  obtain ⟨i0, hi0, hz0, hz1, hz2⟩ := info_parts info_rtok2
  clear hT hSk hst
  go_enter Tryz.func20, Tryz.ntmps20
  go_wp2_with fail
  refine (hS0 _).mono ?_
  rintro e w1 ⟨rfl, hb1⟩
  clear hS0
  have hZ1 := (hb1.block w.heap.size (by simp)).trans (heap_alloc_new w (.cells #[] 32))
  have HB1 : Hid (Below w.heap.size w w1) := Lib.hid ((below_alloc1 w _).trans (hb1.mono (by simp)))
  have hw1 : w.heap.size < w1.heap.size := (Array.getElem?_eq_some_iff.1 hZ1).1
  have HW0 : Hid (RsW w w1.heap.size [] A C (.slice (some ⟨w.heap.size, 0, none⟩) 0 0) (w1.alloc (.cells (eCells A C) 86))) := Lib.hid ⟨HB1.out.alloc (by omega) _, heap_alloc_new _ _, ⟨rfl, .inr ⟨_, 0, #[], rfl, Nat.le_refl _, (Below.heap_alloc _ _ _ hw1).trans hZ1, by simp [tkCells, maxLen]⟩⟩⟩
  clear hb1 hZ1
  go_wp2_with (refine wpList_store_new rfl 86 (.tmp 7) (.tmp 17) rfl (eCells A C) 86 (eCells 0 0) rfl rfl (info_e _ rfl) rfl (e_cells _ _) ?_)
  have HS0 : Hid ((C = 0 ∧ Aft s k0 [] R) ∨ (¬ C = 0 ∧ ∃ x : Nat, A = x ∧ R = .bad C x)) := Lib.hid (by
    rcases HST.out with ⟨h1, _, h3⟩ | ⟨h1, h2, h3⟩
    · exact .inl ⟨h1, h3⟩
    · exact .inr ⟨by omega, k0, h2, by rw [h1]; exact h3⟩)
  clear HST
  generalize hp : w1.heap.size = p at *
  clear hp
  go_frame
  go_loopw [6, 5] (fun x v5 wr => ∃ (k : Nat) (acc : List Tk) (vv : Value) (A C : Int), k ≤ s.size ∧ x = .int .i64 k ∧ vv = v5 ∧ acc.length ≤ k ∧ Hid (RsW w p acc A C vv wr) ∧ Hid ((C = 0 ∧ Aft s k acc R) ∨ (¬ C = 0 ∧ ∃ x : Nat, A = x ∧ R = .bad C x))) (fun x _ wr => 2 * (s.size - (intOf x).toNat) + errM p wr)
  case atStart => exact ⟨k0, [], _, A, C, hk1, rfl, rfl, by simp, HW0, HS0⟩
  case round =>
    clear HW0 HS0 HB1
    obtain ⟨k, acc, vv, A, C, hk, rfl, rfl, hal, HW, HS⟩ := hrel
    have a0 : wr.cell? ⟨p, 0, none⟩ = some (.int .i64 A) := by simp [World.cell?, HW.out.err, eCells]
    have a1 : wr.cell? ⟨p, 1, none⟩ = some (.int .i64 C) := by simp [World.cell?, HW.out.err, eCells]
    have hpw : p < wr.heap.size := (Array.getElem?_eq_some_iff.1 HW.out.err).1
    have hME := HW.out.errM
    rcases HS.out with ⟨rfl, hAft⟩ | ⟨hC, x, rfl, hR⟩
    · obtain ⟨n, sp, hn, hA⟩ := hAft
      rcases hA with ⟨rfl, hR⟩ | ⟨hkl, hbad, hok⟩
      · have HR := Lib.hid hR
        have l1 : decide (s.size < s.size) = false := decide_eq_false (by omega)
        clear hR HS hME
        go_wp2
        go_ret3
        exact ⟨HW.out.below, by rw [HR.out]; exact ⟨_, rfl, HW.out.own⟩⟩
      · have l1 : decide (k < s.size) = true := decide_eq_true hkl
        have hO := fun w => one_any s k w (by omega) hkl
        have hbg := fun c x (h : tokN s k = .bad c x) => tok_bad_ge hkl h
        have hcd := fun c x (h : tokN s k = .bad c x) => tok_code h
        have hfn := fun kind text fin (h : tokN s k = .ok kind text fin) => tok_lt hkl h
        have hwp : w.heap.size ≤ p := by omega
        have hvg : ∀ j, vv.ownBlock = some j → j ≠ wr.heap.size := fun j hj => by have := (HW.out.own.lt j hj).2; omega
        have hpg : p ≠ wr.heap.size := by omega
        have hwg : w.heap.size ≤ wr.heap.size := by omega
        cases ht : tokN s k with
        | bad c x =>
          have HR := Lib.hid (hbad c x ht)
          obtain ⟨hx1, hx2⟩ := hbg c x ht
          have hc := hcd c x ht
          rw [ht] at hO
          unfold oneV tokOf finOf errOf at hO
          have hcb : (c == 0) = false := beq_eq_false_iff_ne.2 hc
          have hcn : (c != 0) = true := by simpa using hc
          clear hbad hok hbg hcd hfn ht HS
          go_wp2_with fail
          refine (hO _).mono ?_
          rintro e w2 ⟨rfl, hb2⟩
          have hG : w2.heap[wr.heap.size]? = some (.cells rTok 32 (0, 0)) := (hb2.block wr.heap.size (by simp)).trans (heap_alloc_new wr _)
          have HW2 : Hid (RsW w p acc A 0 vv w2) := Lib.hid ((HW.out.keep (below_alloc1 wr _)).keep hb2)
          clear hO hb2 a0 a1
          go_wp2_with (first | (refine wpList_store_row rfl 32 (.tmp 8) (.tmp 31) rfl wr.heap.size (rtCells 0 ⟨#[]⟩ 0) rfl rfl 32 rTok hG (info_rt _ rfl) rfl (rt_cells _ _ _) ?_) | (refine wpList_store_row rfl 86 (.tmp 7) (.tmp 33) rfl p (eCells x c) rfl rfl 86 (eCells A 0) (by exact (setRow_other _ _ _ _ hpg).trans HW2.out.err) (info_e _ rfl) rfl (e_cells _ _) ?_; generalize hU : World.setRow (World.setRow _ _ _) _ _ = U; have HWU : Hid (RsW w p acc _ _ vv U) := Lib.hid (hU ▸ (HW2.out.setG hpg hvg hwg (rtCells 0 ⟨#[]⟩ 0)).setE (A' := (x)) (C' := (c)) hwp); have hGU : U.heap[wr.heap.size]? = some (.cells (rtCells 0 ⟨#[]⟩ 0) 32 (0, 0)) := hU ▸ ((setRow_other _ _ _ _ (Ne.symm hpg)).trans (setRow_heap _ _ _ _ _ _ hG)); have u0 := RsW.c0 HWU.out; have u1 := RsW.c1 HWU.out; clear hU))
          go_roundw
          case rel => exact ⟨x, acc, _, x, c, hx2, rfl, rfl, by omega, HWU, Lib.hid (.inr ⟨hc, x, rfl, HR.out⟩)⟩
          case measure => have h1 := HWU.out.errM; rw [if_neg hc] at h1; rw [h1, hME]; simp [intOf]; omega
        | ok kind text fin =>
          have hf := hfn kind text fin ht
          obtain ⟨X2, A2, C2, hSk2, k2, rfl, hk2a, hk2b, hst2⟩ := tok_state hf.2 (by omega) (hok kind text fin ht)
          have hS2 := fun w => rskip_any s fin w (by omega) hf.2 k2 A2 C2 hSk2
          have HS2 : Hid ((C2 = 0 ∧ Aft s k2 (acc ++ [⟨kind, text, k⟩]) R) ∨ (¬ C2 = 0 ∧ ∃ x : Nat, A2 = x ∧ R = .bad C2 x)) := Lib.hid (by
            rcases hst2 with ⟨h1, _, h3⟩ | ⟨h1, h2, h3⟩
            · exact .inl ⟨h1, h3⟩
            · exact .inr ⟨by omega, k2, h2, by rw [h1]; exact h3⟩)
          rw [ht] at hO
          unfold oneV tokOf finOf errOf at hO
          clear hbad hok hbg hcd hfn ht HS hSk2 hst2
          go_wp2_with fail
          refine (hO _).mono ?_
          rintro e w2 ⟨rfl, hb2⟩
          have hG : w2.heap[wr.heap.size]? = some (.cells rTok 32 (0, 0)) := (hb2.block wr.heap.size (by simp)).trans (heap_alloc_new wr _)
          have HW2 : Hid (RsW w p acc A 0 vv w2) := Lib.hid ((HW.out.keep (below_alloc1 wr _)).keep hb2)
          clear hO hb2 a0 a1
          go_wp2_with (first | (refine wpList_store_row rfl 32 (.tmp 8) (.tmp 31) rfl wr.heap.size (rtCells kind text k) rfl rfl 32 rTok hG (info_rt _ rfl) rfl (rt_cells _ _ _) ?_) | (refine wpList_store_row rfl 86 (.tmp 7) (.tmp 33) rfl p (eCells 0 0) rfl rfl 86 (eCells A 0) (by exact (setRow_other _ _ _ _ hpg).trans HW2.out.err) (info_e _ rfl) rfl (e_cells _ _) ?_; generalize hU : World.setRow (World.setRow _ _ _) _ _ = U; have HWU : Hid (RsW w p acc _ _ vv U) := Lib.hid (hU ▸ (HW2.out.setG hpg hvg hwg (rtCells kind text k)).setE (A' := 0) (C' := 0) hwp); have hGU : U.heap[wr.heap.size]? = some (.cells (rtCells kind text k) 32 (0, 0)) := hU ▸ ((setRow_other _ _ _ _ (Ne.symm hpg)).trans (setRow_heap _ _ _ _ _ _ hG)); have u0 := RsW.c0 HWU.out; have u1 := RsW.c1 HWU.out; obtain ⟨t0, t1, t2⟩ := rt_c hGU; have hUz := HWU.out.below.size; clear hU) | (at_builtin; refine wpList_append_lies _ (by rfl) _ _ _ (by rfl) w.heap.size 32 i0 _ 3 32 Tryz.underlying25 hi0 hz0 hz1 hz2 (by rfl) (by omega) _ acc.length (tkCells acc) (by rfl) (HWU.out.own.alloc _) ⟨U.heap.size, 0, none⟩ 1 1 [.int .i64 kind, .string text, .int .i64 k] (by rfl) (by rfl) (World.news_of_block (cs := #[.int .i64 kind, .string text, .int .i64 k]) (t := 32) (fr := (0, 0)) (heap_alloc_new _ _)) (by simp [Value.oneCell']) (by omega) (by unfold maxLen; omega) (by omega) (by simp; omega) _ (by rfl) ?_; intro gg cap3 w5 hown1 hgrow hat hlt9; have HW5 := Lib.hid (HWU.out.push ⟨kind, text, k⟩ hown1 hgrow); clear hgrow hown1 hat hlt9))
          refine (hS2 _).mono ?_
          rintro e w6 ⟨rfl, hb6⟩
          have HW6 := Lib.hid (HW5.out.keep hb6)
          clear hS2 hb6
          go_wp2_with (refine wpList_store_row rfl 86 (.tmp 7) (.tmp 46) rfl p (eCells A2 C2) rfl rfl 86 (eCells 0 0) HW6.out.err (info_e _ rfl) rfl (e_cells _ _) ?_)
          have HW7 := Lib.hid (HW6.out.setE (A' := A2) (C' := C2) hwp)
          simp only [Act.put]
          go_roundw
          case rel => exact ⟨k2, _, _, A2, C2, hk2b, rfl, rfl, by rw [List.length_append, List.length_singleton]; omega, HW7, HS2⟩
          case measure => have h1 := HW7.out.errM; rw [h1, hME]; simp [intOf]; split <;> omega
    · have HR := Lib.hid hR
      have hCb : (C == 0) = false := beq_eq_false_iff_ne.2 hC
      have hCn : (C != 0) = true := by simpa using hC
      clear hR hC HS hME
      go_wp2
      go_quiet (fail)
      go_wp2
      go_ret3
      exact ⟨below_drewN HW.out.below _, by rw [HR.out]; rfl⟩
end Go.Proofs.YtmapaagdaojpaaaGreatDoor
namespace Go.Proofs.YtmapaagdaojpaaaGreatDoor
open Go.RowKit

/-- Between two bytes of a gap. -/
def part (s : ByteArray) (qd q1 : List (Nat × Nat)) (j x : Nat) : UInt8 := if x < j then blank s (qd ++ q1) x else blank s qd x
theorem blank_of {s : ByteArray} {q : List (Nat × Nat)} {x : Nat} : blank s q x = if inSp q x = true ∧ bu s x ≠ 10 then 32 else bu s x := by
  unfold blank
  cases inSp q x <;> by_cases h : bu s x = 10 <;> simp [h]
theorem part_start {s : ByteArray} {qd q1 : List (Nat × Nat)} {j : Nat} (h1 : ∀ p ∈ q1, j ≤ p.1) (x : Nat) : part s qd q1 j x = blank s qd x := by
  unfold part
  split
  · rename_i h
    unfold blank
    rw [inSp_append, inSp_lo h1 h, Bool.or_false]
  · rfl
theorem part_end {s : ByteArray} {qd q1 : List (Nat × Nat)} {e : Nat} (h1 : ∀ p ∈ q1, p.2 ≤ e) (x : Nat) : blank s (qd ++ q1) x = part s qd q1 e x := by
  unfold part
  split
  · rfl
  · rename_i h
    unfold blank
    rw [inSp_append, inSp_hi h1 (by omega), Bool.or_false]
theorem part_next {s : ByteArray} {qd q1 : List (Nat × Nat)} {j : Nat} (h1 : ∀ p ∈ qd, p.2 ≤ j) (x : Nat) : part s qd q1 (j + 1) x = if x = j then (if inSp q1 j = true ∧ bu s j ≠ 10 then 32 else bu s j) else part s qd q1 j x := by
  unfold part
  by_cases e : x = j
  · subst e
    rw [if_pos (by omega), if_pos rfl, blank_of, inSp_append, inSp_hi h1 (Nat.le_refl _), Bool.false_or]
  · rw [if_neg e]
    by_cases h : x < j
    · rw [if_pos (by omega), if_pos h]
    · rw [if_neg (by omega), if_neg h]
theorem part_at {s : ByteArray} {qd q1 : List (Nat × Nat)} {j : Nat} (h1 : ∀ p ∈ qd, p.2 ≤ j) : part s qd q1 j j = bu s j := by
  unfold part
  rw [if_neg (by omega), blank_of, inSp_hi h1 (Nat.le_refl _)]
  simp
theorem toks_few (s : ByteArray) : ∀ (n i : Nat) (sp : List (Nat × Nat)) (acc l : List Tk) (sp' : List (Nat × Nat)), i ≤ s.size → acc.length ≤ i → toksN s n i sp acc = .ok l sp' → l.length ≤ s.size
  | 0, i, sp, acc, l, sp', hi, ha, h => by simp only [toksN, ScanR.ok.injEq] at h; rw [← h.1]; omega
  | n + 1, i, sp, acc, l, sp', hi, ha, h => by
    unfold toksN at h
    split at h
    · cases h
    · rename_i j sp1 hs
      have hj := skip_le s _ _ _ _ _ hi hs
      split at h
      · cases h; omega
      · split at h
        · cases h
        · rename_i kind text fin ht
          have hf := tok_lt (by omega) ht
          exact toks_few s n _ _ _ _ _ hf.2 (by rw [List.length_append, List.length_singleton]; omega) h
theorem scan_few {s : ByteArray} {l : List Tk} {sp : List (Nat × Nat)} (h : scanN s = .ok l sp) : l.length ≤ s.size := by
  unfold scanN at h
  split at h
  · cases h
  · exact toks_few s _ _ _ _ _ _ (Nat.zero_le _) (by simp) h
/-- At gap k: what is done, and what is still to come. -/
def StrAt (s : ByteArray) (m : List Tk) (sp : List (Nat × Nat)) (k i : Nat) (qd : List (Nat × Nat)) : Prop :=
  (k ≤ m.length ∧ ∃ q', Lay2 s i (m.drop k) q' ∧ sp = qd ++ q' ∧ ∀ p ∈ qd, p.2 ≤ i) ∨ (k = m.length + 1 ∧ qd = sp)
set_option maxHeartbeats 8000000 in
set_option maxRecDepth 100000 in
theorem rStrip_any (s : ByteArray) (w : World) (hs : s.size ≤ 40000) :
    Calls Tryz.prog 22 #[.string s] w (StripOut s w (scanN s)) := by
  have hS := rScan_any s w hs
  have hcode := fun c x => scan_code (s := s) (c := c) (x := x)
  have hlay := fun m sp => scan_lay2 (s := s) (m := m) (sp := sp)
  have hcnt := fun (m : List Tk) sp (h : scanN s = .ok m sp) => (scan_few h : m.length ≤ s.size)
  generalize scanN s = R at hS hcode hlay hcnt ⊢
  go_enter Tryz.func22, Tryz.ntmps22
  go_wp2_with fail
  refine hS.mono ?_
  clear hS
  intro e w2 hP
  cases R with
  | bad c x =>
    obtain ⟨hb, rfl⟩ := hP
    have hc := hcode c x rfl
    have hcn : (c != 0) = true := by simpa using hc
    clear hcode hlay hcnt hc
    go_wp2
    go_ret3
    exact ⟨hb, rfl⟩
  | ok m sp =>
    obtain ⟨hb, vo, rfl, hown⟩ := hP
    have hl0 := hlay m sp rfl
    have hmz := hcnt m sp rfl
    clear hcode hlay hcnt
    have hmm : (m.map toTi).length = m.length := List.length_map ..
    rw [tk_ti, ← hmm] at hown
    obtain ⟨ao, acap, rfl, hrow⟩ := tiRow_own hown
    rw [hmm]
    have HR := Lib.hid hrow
    have HMM := Lib.hid hmm
    clear hown hrow hmm
    have HB2 := Lib.hid hb
    obtain ⟨cap, W3, hcv, hO, hb3, hz3⟩ := open_bytes s w2
    have HB3 : Hid (Below w2.heap.size w2 W3) := hb3
    have HO : Hid (OutAt w2.heap.size (blank s []) s.size W3) := Lib.hid (hO.congr fun x _ => blank_nil s x)
    have HS0 : Hid (StrAt s m sp 0 0 []) := Lib.hid (.inl ⟨Nat.zero_le _, sp, hl0, rfl, by simp⟩)
    clear hb hO hb3 hl0
    go_wp2
    go_loopw [10, 9] (fun x10 x9 wr => ∃ (k i : Nat) (qd : List (Nat × Nat)), k ≤ m.length + 1 ∧ i ≤ s.size ∧ x10 = .int .i64 k ∧ x9 = .int .i64 i ∧ Hid (StrAt s m sp k i qd) ∧ Hid (OutAt w2.heap.size (blank s qd) s.size wr) ∧ Hid (Below w2.heap.size w2 wr) ∧ w2.heap.size < wr.heap.size) (fun x10 _ _ => m.length + 2 - (intOf x10).toNat)
    case atStart => exact ⟨0, 0, [], by omega, by omega, rfl, rfl, HS0, HO, HB3, hz3⟩
    case round =>
      clear HS0 HO HB3 hz3 hcv
      obtain ⟨k, i, qd, hk, hi, rfl, rfl, HS, HO, HB, hz⟩ := hrel
      have wk : IntKind.i64.wrap ((k : Int) + 1) = k + 1 := IntWalk.i64_in _ (by omega)
      by_cases hkl : k ≤ m.length
      · have l0 : decide (k ≤ m.length) = true := decide_eq_true hkl
        obtain ⟨q', hL, hsp, hqd⟩ := (HS.out.resolve_right (by omega)).2
        by_cases hlt : k < m.length
        · have l1 : decide (k < m.length) = true := decide_eq_true hlt
          have hd : m.drop k = m[k] :: m.drop (k + 1) := List.drop_eq_getElem_cons hlt
          rw [hd] at hL
          obtain ⟨q1, q2, fin, hq', hi', hg, hat, ht, hL2⟩ := hL
          have hmk : k < (m.map toTi).length := by rw [HMM.out]; exact hlt
          obtain ⟨g, off, rfl, hgl, hcells⟩ := HR.out (by intro q; rw [q] at hmk; simp at hmk)
          have q2c := (hcells k hmk).2.2
          have hai : ((m.map toTi)[k]).at_ = (m[k].at_ : Int) := by simp [toTi]
          rw [hai] at q2c
          generalize m[k].at_ = e at q2c hg hat ht
          generalize m[k].kind = kind at ht
          generalize m[k].text = text at ht
          have r2 := (HB.out.cell (p := ⟨g, off + k * 3 + 2, none⟩) hgl).trans q2c
          have HQ2 := Lib.hid q2c
          have HT := Lib.hid ht
          have HL2 := Lib.hid hL2
          have HSP : Hid (sp = (qd ++ q1) ++ q2) := Lib.hid (by rw [hsp, hq', List.append_assoc])
          clear hd hcells hai q2c ht hL2 hsp hq' hi' HS
          have HBD := Lib.hid (hg.bounds hi)
          have HP0 : Hid (OutAt w2.heap.size (part s qd q1 i) s.size wr) := Lib.hid (HO.out.congr fun x _ => part_start (fun p hp => (HBD.out.1 p hp).1) x)
          have HG := Lib.hid hg
          have hie := (hg.le hi)
          have HQD : Hid (∀ p ∈ qd, p.2 ≤ i) := hqd
          obtain ⟨wo, rfl⟩ : ∃ wo : World, wo = wr := ⟨_, rfl⟩
          clear hg hqd
          go_wp2
          go_loopw [12] (fun x wr => ∃ j : Nat, i ≤ j ∧ j ≤ e ∧ x = .int .i64 j ∧ Hid (OutAt w2.heap.size (part s qd q1 j) s.size wr) ∧ Hid (Below w2.heap.size w2 wr) ∧ w2.heap.size < wr.heap.size) (fun x _ => e - (intOf x).toNat)
          case atStart => exact ⟨i, Nat.le_refl _, hie.1, rfl, HP0, HB, hz⟩
          case round =>
            clear HP0 HO
            obtain ⟨j, hij, hje, rfl, HOj, HBj, hzj⟩ := hrel
            by_cases hjl : j < e
            · have m1 : decide (j < e) = true := decide_eq_true hjl
              have hjs : j < s.size := by omega
              have m2 : decide (j < s.size) = true := decide_eq_true hjs
              have mj : IntKind.i64.wrap ((j : Int) + 1) = j + 1 := IntWalk.i64_in _ (by omega)
              have HXj : Hid (((s[j]'hjs).toNat : Int) = bt s j) := bt_in hjs
              have HBUj : Hid (((s[j]'hjs).toNat : Int) = ((bu s j).toNat : Int)) := Lib.hid ((bt_in hjs).trans (bt_bu s j))
              have hWh : ∀ w, Calls Tryz.prog 53 #[.int .u8 ((s[j]'hjs).toNat : Int)] w fun e w' => e = .returned (.bool (cls (bt s j).toNat == 1)) ∧ w' = w := fun w => by
                rw [HXj.out]; exact rWhite_any _ (bt_lo s j) w
              have hIn := fun w => rinside_any s i j e q1 w (by omega) hij hjl hie.2 HG.out
              have hNX := fun x => part_next (s := s) (q1 := q1) (j := j) (fun p hp => Nat.le_trans (HQD.out p hp) hij) x
              have hPA := part_at (s := s) (q1 := q1) (j := j) (fun p hp => Nat.le_trans (HQD.out p hp) hij)
              have hcov := HBD.out.2 j hij hjl
              cases hq1 : inSp q1 j with
              | true =>
                rw [hq1] at hIn
                by_cases h10 : bu s j = 10
                · have HNX : Hid (∀ x, part s qd q1 (j + 1) x = part s qd q1 j x) := Lib.hid fun x => by
                    have hv : (if inSp q1 j = true ∧ bu s j ≠ 10 then 32 else bu s j) = bu s j := if_neg (fun q => q.2 h10)
                    rw [hNX x, hv]
                    split
                    · rename_i h; rw [h, hPA]
                    · rfl
                  have n10 : (((s[j]'hjs).toNat : Int) != 10) = false := by rw [HBUj.out, h10]; rfl
                  clear hNX hPA hq1 h10
                  by_cases hw : cls (bt s j).toNat = 1
                  · rw [show (cls (bt s j).toNat == 1) = true by simpa using hw] at hWh
                    clear hw hcov
                    go_wp2_with (first | (go_at_call 53; refine (hWh _).mono ?_; rintro e w9 ⟨rfl, rfl⟩) | (go_at_call 54; refine (hIn _).mono ?_; rintro e w9 ⟨rfl, rfl⟩))
                    go_roundw
                    case rel => exact ⟨j + 1, by omega, by omega, by go_num, Lib.hid (HOj.out.congr fun x hx => HNX.out x), HBj, hzj⟩
                    case measure => simp [intOf]; omega
                  · rw [show (cls (bt s j).toNat == 1) = false by simpa using hw] at hWh
                    clear hw hcov
                    go_wp2_with (first | (go_at_call 53; refine (hWh _).mono ?_; rintro e w9 ⟨rfl, rfl⟩) | (go_at_call 54; refine (hIn _).mono ?_; rintro e w9 ⟨rfl, rfl⟩))
                    go_roundw
                    case rel => exact ⟨j + 1, by omega, by omega, by go_num, Lib.hid (HOj.out.congr fun x hx => HNX.out x), HBj, hzj⟩
                    case measure => simp [intOf]; omega
                · have HNX : Hid (∀ x, part s qd q1 (j + 1) x = if x = j then 32 else part s qd q1 j x) := Lib.hid fun x => by
                    have hv : (if inSp q1 j = true ∧ bu s j ≠ 10 then 32 else bu s j) = 32 := if_pos ⟨hq1, h10⟩
                    rw [hNX x, hv]
                  have n10 : (((s[j]'hjs).toNat : Int) != 10) = true := by
                    rw [HBUj.out, bne_iff_ne]; exact fun q => h10 (UInt8.toNat_inj.1 (by show _ = 10; omega))
                  have hc := HOj.out.cell j hjs
                  have hf := HOj.out.free j hjs
                  clear hNX hPA hq1 h10
                  by_cases hw : cls (bt s j).toNat = 1
                  · rw [show (cls (bt s j).toNat == 1) = true by simpa using hw] at hWh
                    clear hw hcov
                    go_wp2_with (first | (go_at_call 53; refine (hWh _).mono ?_; rintro e w9 ⟨rfl, rfl⟩) | (go_at_call 54; refine (hIn _).mono ?_; rintro e w9 ⟨rfl, rfl⟩))
                    go_roundw
                    case rel => exact ⟨j + 1, by omega, by omega, by go_num, Lib.hid (HOj.out.put j (by omega) 32 (fun x hx => HNX.out x) _ rfl), Lib.hid (HBj.out.trans ((Keep.of_setCell _ _ _).below HBj.out.size (fun k hk q => by have : k = w2.heap.size := q; omega))), by simpa using hzj⟩
                    case measure => simp [intOf]; omega
                  · rw [show (cls (bt s j).toNat == 1) = false by simpa using hw] at hWh
                    clear hw hcov
                    go_wp2_with (first | (go_at_call 53; refine (hWh _).mono ?_; rintro e w9 ⟨rfl, rfl⟩) | (go_at_call 54; refine (hIn _).mono ?_; rintro e w9 ⟨rfl, rfl⟩))
                    go_roundw
                    case rel => exact ⟨j + 1, by omega, by omega, by go_num, Lib.hid (HOj.out.put j (by omega) 32 (fun x hx => HNX.out x) _ rfl), Lib.hid (HBj.out.trans ((Keep.of_setCell _ _ _).below HBj.out.size (fun k hk q => by have : k = w2.heap.size := q; omega))), by simpa using hzj⟩
                    case measure => simp [intOf]; omega
              | false =>
                rw [hq1] at hIn
                have hw : cls (bt s j).toNat = 1 := hcov.resolve_left (by rw [hq1]; decide)
                rw [show (cls (bt s j).toNat == 1) = true by simpa using hw] at hWh
                have HNX : Hid (∀ x, part s qd q1 (j + 1) x = part s qd q1 j x) := Lib.hid fun x => by
                  have hv : (if inSp q1 j = true ∧ bu s j ≠ 10 then 32 else bu s j) = bu s j := if_neg (fun q => by rw [hq1] at q; cases q.1)
                  rw [hNX x, hv]
                  split
                  · rename_i h; rw [h, hPA]
                  · rfl
                clear hNX hPA hq1 hw hcov
                go_wp2_with (first | (go_at_call 53; refine (hWh _).mono ?_; rintro e w9 ⟨rfl, rfl⟩) | (go_at_call 54; refine (hIn _).mono ?_; rintro e w9 ⟨rfl, rfl⟩))
                go_roundw
                case rel => exact ⟨j + 1, by omega, by omega, by go_num, Lib.hid (HOj.out.congr fun x hx => HNX.out x), HBj, hzj⟩
                case measure => simp [intOf]; omega
            · have m1 : decide (j < e) = false := decide_eq_false hjl
              obtain rfl : j = e := by omega
              have HOe : Hid (OutAt w2.heap.size (blank s (qd ++ q1)) s.size wr) := Lib.hid (HOj.out.congr fun x _ => part_end (fun p hp => (HBD.out.1 p hp).2) x)
              have r3 := (HBj.out.cell (p := ⟨g, off + k * 3 + 2, none⟩) hgl).trans HQ2.out
              have hgw : g < wr.heap.size := by have := HBj.out.size; omega
              have hO := fun w => one_any s j w (by omega) hat
              rw [HT.out] at hO
              unfold oneV tokOf finOf errOf at hO
              have hfn := tok_lt hat HT.out
              have HSN : Hid (StrAt s m sp (k + 1) fin (qd ++ q1)) := Lib.hid (.inl ⟨by omega, q2, HL2.out, HSP.out, fun p hp => by
                rcases List.mem_append.1 hp with h | h
                · have := HQD.out p h; omega
                · have := (HBD.out.1 p h).2; omega⟩)
              go_wp2_with fail
              refine (hO _).mono ?_
              rintro e w9 ⟨rfl, hb9⟩
              have HO9 : Hid (OutAt w2.heap.size (blank s (qd ++ q1)) s.size w9) := Lib.hid (HOe.out.keep (Keep.of_below (S := fun _ => False) hb9) hzj (fun q => q))
              have HB9 : Hid (Below w2.heap.size w2 w9) := Lib.hid (HBj.out.trans (hb9.mono HBj.out.size))
              have hz9 := Nat.lt_of_lt_of_le hzj hb9.size
              clear hb9 hO
              go_wp2
              go_roundw
              case rel => exact ⟨k + 1, fin, _, by omega, hfn.2, by go_num, rfl, HSN, HO9, HB9, hz9⟩
              case measure => simp [intOf]; omega
        · have l1 : decide (k < m.length) = false := decide_eq_false hlt
          obtain rfl : k = m.length := by omega
          rw [List.drop_length] at hL
          obtain ⟨_, hg⟩ : i ≤ s.size ∧ GapAt s i s.size q' := hL
          have HSP : Hid (sp = qd ++ q') := Lib.hid hsp
          clear hsp HS
          have HBD := Lib.hid (hg.bounds hi)
          have HP0 : Hid (OutAt w2.heap.size (part s qd q' i) s.size wr) := Lib.hid (HO.out.congr fun x _ => part_start (fun p hp => (HBD.out.1 p hp).1) x)
          have HG := Lib.hid hg
          have hie := (hg.le hi)
          have HQD : Hid (∀ p ∈ qd, p.2 ≤ i) := hqd
          obtain ⟨wo, rfl⟩ : ∃ wo : World, wo = wr := ⟨_, rfl⟩
          clear hg hqd
          go_wp2
          go_loopw [12] (fun x wr => ∃ j : Nat, i ≤ j ∧ j ≤ s.size ∧ x = .int .i64 j ∧ Hid (OutAt w2.heap.size (part s qd q' j) s.size wr) ∧ Hid (Below w2.heap.size w2 wr) ∧ w2.heap.size < wr.heap.size) (fun x _ => s.size - (intOf x).toNat)
          case atStart => exact ⟨i, Nat.le_refl _, hie.1, rfl, HP0, HB, hz⟩
          case round =>
            clear HP0 HO
            obtain ⟨j, hij, hje, rfl, HOj, HBj, hzj⟩ := hrel
            by_cases hjl : j < s.size
            · have m1 : decide (j < s.size) = true := decide_eq_true hjl
              have hjs : j < s.size := by omega
              have m2 : decide (j < s.size) = true := decide_eq_true hjs
              have mj : IntKind.i64.wrap ((j : Int) + 1) = j + 1 := IntWalk.i64_in _ (by omega)
              have HXj : Hid (((s[j]'hjs).toNat : Int) = bt s j) := bt_in hjs
              have HBUj : Hid (((s[j]'hjs).toNat : Int) = ((bu s j).toNat : Int)) := Lib.hid ((bt_in hjs).trans (bt_bu s j))
              have hWh : ∀ w, Calls Tryz.prog 53 #[.int .u8 ((s[j]'hjs).toNat : Int)] w fun e w' => e = .returned (.bool (cls (bt s j).toNat == 1)) ∧ w' = w := fun w => by
                rw [HXj.out]; exact rWhite_any _ (bt_lo s j) w
              have hIn := fun w => rinside_any s i j s.size q' w (by omega) hij hjl hie.2 HG.out
              have hNX := fun x => part_next (s := s) (q1 := q') (j := j) (fun p hp => Nat.le_trans (HQD.out p hp) hij) x
              have hPA := part_at (s := s) (q1 := q') (j := j) (fun p hp => Nat.le_trans (HQD.out p hp) hij)
              have hcov := HBD.out.2 j hij hjl
              cases hq1 : inSp q' j with
              | true =>
                rw [hq1] at hIn
                by_cases h10 : bu s j = 10
                · have HNX : Hid (∀ x, part s qd q' (j + 1) x = part s qd q' j x) := Lib.hid fun x => by
                    have hv : (if inSp q' j = true ∧ bu s j ≠ 10 then 32 else bu s j) = bu s j := if_neg (fun q => q.2 h10)
                    rw [hNX x, hv]
                    split
                    · rename_i h; rw [h, hPA]
                    · rfl
                  have n10 : (((s[j]'hjs).toNat : Int) != 10) = false := by rw [HBUj.out, h10]; rfl
                  clear hNX hPA hq1 h10
                  by_cases hw : cls (bt s j).toNat = 1
                  · rw [show (cls (bt s j).toNat == 1) = true by simpa using hw] at hWh
                    clear hw hcov
                    go_wp2_with (first | (go_at_call 53; refine (hWh _).mono ?_; rintro e w9 ⟨rfl, rfl⟩) | (go_at_call 54; refine (hIn _).mono ?_; rintro e w9 ⟨rfl, rfl⟩))
                    go_roundw
                    case rel => exact ⟨j + 1, by omega, by omega, by go_num, Lib.hid (HOj.out.congr fun x hx => HNX.out x), HBj, hzj⟩
                    case measure => simp [intOf]; omega
                  · rw [show (cls (bt s j).toNat == 1) = false by simpa using hw] at hWh
                    clear hw hcov
                    go_wp2_with (first | (go_at_call 53; refine (hWh _).mono ?_; rintro e w9 ⟨rfl, rfl⟩) | (go_at_call 54; refine (hIn _).mono ?_; rintro e w9 ⟨rfl, rfl⟩))
                    go_roundw
                    case rel => exact ⟨j + 1, by omega, by omega, by go_num, Lib.hid (HOj.out.congr fun x hx => HNX.out x), HBj, hzj⟩
                    case measure => simp [intOf]; omega
                · have HNX : Hid (∀ x, part s qd q' (j + 1) x = if x = j then 32 else part s qd q' j x) := Lib.hid fun x => by
                    have hv : (if inSp q' j = true ∧ bu s j ≠ 10 then 32 else bu s j) = 32 := if_pos ⟨hq1, h10⟩
                    rw [hNX x, hv]
                  have n10 : (((s[j]'hjs).toNat : Int) != 10) = true := by
                    rw [HBUj.out, bne_iff_ne]; exact fun q => h10 (UInt8.toNat_inj.1 (by show _ = 10; omega))
                  have hc := HOj.out.cell j hjs
                  have hf := HOj.out.free j hjs
                  clear hNX hPA hq1 h10
                  by_cases hw : cls (bt s j).toNat = 1
                  · rw [show (cls (bt s j).toNat == 1) = true by simpa using hw] at hWh
                    clear hw hcov
                    go_wp2_with (first | (go_at_call 53; refine (hWh _).mono ?_; rintro e w9 ⟨rfl, rfl⟩) | (go_at_call 54; refine (hIn _).mono ?_; rintro e w9 ⟨rfl, rfl⟩))
                    go_roundw
                    case rel => exact ⟨j + 1, by omega, by omega, by go_num, Lib.hid (HOj.out.put j (by omega) 32 (fun x hx => HNX.out x) _ rfl), Lib.hid (HBj.out.trans ((Keep.of_setCell _ _ _).below HBj.out.size (fun k hk q => by have : k = w2.heap.size := q; omega))), by simpa using hzj⟩
                    case measure => simp [intOf]; omega
                  · rw [show (cls (bt s j).toNat == 1) = false by simpa using hw] at hWh
                    clear hw hcov
                    go_wp2_with (first | (go_at_call 53; refine (hWh _).mono ?_; rintro e w9 ⟨rfl, rfl⟩) | (go_at_call 54; refine (hIn _).mono ?_; rintro e w9 ⟨rfl, rfl⟩))
                    go_roundw
                    case rel => exact ⟨j + 1, by omega, by omega, by go_num, Lib.hid (HOj.out.put j (by omega) 32 (fun x hx => HNX.out x) _ rfl), Lib.hid (HBj.out.trans ((Keep.of_setCell _ _ _).below HBj.out.size (fun k hk q => by have : k = w2.heap.size := q; omega))), by simpa using hzj⟩
                    case measure => simp [intOf]; omega
              | false =>
                rw [hq1] at hIn
                have hw : cls (bt s j).toNat = 1 := hcov.resolve_left (by rw [hq1]; decide)
                rw [show (cls (bt s j).toNat == 1) = true by simpa using hw] at hWh
                have HNX : Hid (∀ x, part s qd q' (j + 1) x = part s qd q' j x) := Lib.hid fun x => by
                  have hv : (if inSp q' j = true ∧ bu s j ≠ 10 then 32 else bu s j) = bu s j := if_neg (fun q => by rw [hq1] at q; cases q.1)
                  rw [hNX x, hv]
                  split
                  · rename_i h; rw [h, hPA]
                  · rfl
                clear hNX hPA hq1 hw hcov
                go_wp2_with (first | (go_at_call 53; refine (hWh _).mono ?_; rintro e w9 ⟨rfl, rfl⟩) | (go_at_call 54; refine (hIn _).mono ?_; rintro e w9 ⟨rfl, rfl⟩))
                go_roundw
                case rel => exact ⟨j + 1, by omega, by omega, by go_num, Lib.hid (HOj.out.congr fun x hx => HNX.out x), HBj, hzj⟩
                case measure => simp [intOf]; omega
            · have m1 : decide (j < s.size) = false := decide_eq_false hjl
              obtain rfl : j = s.size := by omega
              have HOe : Hid (OutAt w2.heap.size (blank s (qd ++ q')) s.size wr) := Lib.hid (HOj.out.congr fun x _ => part_end (fun p hp => (HBD.out.1 p hp).2) x)
              have HSN : Hid (StrAt s m sp (m.length + 1) i (qd ++ q')) := Lib.hid (.inr ⟨rfl, HSP.out.symm⟩)
              go_wp2
              go_roundw
              case rel => exact ⟨m.length + 1, i, _, Nat.le_refl _, hi, by go_num, rfl, HSN, HOe, HBj, hzj⟩
              case measure => simp [intOf]
      · have l0 : decide (k ≤ m.length) = false := decide_eq_false hkl
        have hq : qd = sp := by
          rcases HS.out with ⟨h, _⟩ | ⟨_, h⟩
          · omega
          · exact h
        subst hq
        have hcl := close_bytes (stripB s qd) w2.heap.size cap wr (by rw [stripB_size]; exact HO.out.congr fun x hx => stripB_bu s qd x hx)
        rw [stripB_size] at hcl
        clear hkl hk
        go_wp2
        go_ret3
        exact ⟨HB2.out.trans (HB.out.mono HB2.out.size), rfl⟩
end Go.Proofs.YtmapaagdaojpaaaGreatDoor
namespace Go.Proofs.YtmapaagdaojpaaaGreatDoor
open Go.RowKit

theorem scan_long {s : ByteArray} (hs : 40000 < s.size) : scanN s = .bad 7 0 := by unfold scanN; rw [if_pos (by omega)]
theorem large_done {w W : World} {b : Nat} (e2 : W.heap[w.heap.size]? = some (.cells #[.slice none 0 0] 22 (0, 0))) (e3 : W.heap[w.heap.size + 1]? = some (.cells #[.pointer none] 77 (0, 0)))
    (e4 : W.heap[w.heap.size + 2]? = some (.cells #[.nilIface] 46 (0, 0))) (hB : Below w.heap.size w W) {U : World}
    (hU : ((((W.setCell ⟨w.heap.size, 0, none⟩ (.slice none 0 0)).setCell ⟨w.heap.size + 1, 0, none⟩ (.pointer (some ⟨b, 0, none⟩))).setCell ⟨w.heap.size + 1 + 1, 0, none⟩ (.iface 110 (.pointer (some ⟨W.heap.size, 0, none⟩)))).alloc
      (.cells #[.int .i64 0, .int .i64 7] 112)).drew = U) :
    U.cell? ⟨w.heap.size, 0, none⟩ = some (.slice none 0 0) ∧ U.cell? ⟨w.heap.size + 1, 0, none⟩ = some (.pointer (some ⟨b, 0, none⟩)) ∧ U.cell? ⟨w.heap.size + 1 + 1, 0, none⟩ = some (.iface 110 (.pointer (some ⟨W.heap.size, 0, none⟩))) ∧
    U.heap[W.heap.size]? = some (.cells #[.int .i64 0, .int .i64 7] 112 (0, 0)) ∧ Below w.heap.size w U := by
  have l4 : w.heap.size + 2 < W.heap.size := (Array.getElem?_eq_some_iff.1 e4).1
  have b2 := set_box e2 (.slice none 0 0)
  have K1 := Keep.of_setCell W ⟨w.heap.size, 0, none⟩ (.slice none 0 0)
  have z1 : (W.setCell ⟨w.heap.size, 0, none⟩ (.slice none 0 0)).heap.size = W.heap.size := by simp
  generalize W.setCell ⟨w.heap.size, 0, none⟩ (.slice none 0 0) = W1 at b2 K1 z1 hU
  have b3 := set_box ((K1.block (w.heap.size + 1) (by omega) (by show ¬ w.heap.size + 1 = w.heap.size; omega)).trans e3) (.pointer (some ⟨b, 0, none⟩))
  have K2 := Keep.of_setCell W1 ⟨w.heap.size + 1, 0, none⟩ (.pointer (some ⟨b, 0, none⟩))
  have z2 : (W1.setCell ⟨w.heap.size + 1, 0, none⟩ (.pointer (some ⟨b, 0, none⟩))).heap.size = W.heap.size := by simp [z1]
  generalize W1.setCell ⟨w.heap.size + 1, 0, none⟩ (.pointer (some ⟨b, 0, none⟩)) = W2 at b3 K2 z2 hU
  have K12 : Keep (fun k => k = w.heap.size ∨ k = w.heap.size + 1) W W2 := Keep.trans (K1.mono (fun _ _ q => .inl q)) K2 (fun _ _ q => .inr q)
  have b4 := set_box ((K12.block (w.heap.size + 2) (by omega) (by omega)).trans e4) (.iface 110 (.pointer (some ⟨W.heap.size, 0, none⟩)))
  have K3 := Keep.of_setCell W2 ⟨w.heap.size + 2, 0, none⟩ (.iface 110 (.pointer (some ⟨W.heap.size, 0, none⟩)))
  have z3 : (W2.setCell ⟨w.heap.size + 2, 0, none⟩ (.iface 110 (.pointer (some ⟨W.heap.size, 0, none⟩)))).heap.size = W.heap.size := by simp [z2]
  have hU : ((W2.setCell ⟨w.heap.size + 2, 0, none⟩ (.iface 110 (.pointer (some ⟨W.heap.size, 0, none⟩)))).alloc (.cells #[.int .i64 0, .int .i64 7] 112)).drew = U := hU
  generalize W2.setCell ⟨w.heap.size + 2, 0, none⟩ (.iface 110 (.pointer (some ⟨W.heap.size, 0, none⟩))) = W3 at b4 K3 z3 hU
  have K123 : Keep (fun k => k = w.heap.size ∨ k = w.heap.size + 1 ∨ k = w.heap.size + 2) W W3 :=
    Keep.trans (K12.mono (fun _ _ q => by omega)) K3 (fun _ _ q => by have : _ = w.heap.size + 2 := q; omega)
  have a2 := (K3.block w.heap.size (by omega) (by show ¬ w.heap.size = w.heap.size + 2; omega)).trans ((K2.block w.heap.size (by omega) (by show ¬ w.heap.size = w.heap.size + 1; omega)).trans b2)
  have a3 := (K3.block (w.heap.size + 1) (by omega) (by show ¬ w.heap.size + 1 = w.heap.size + 2; omega)).trans b3
  have q2 := alloc_old (.cells #[.int .i64 0, .int .i64 7] 112) a2
  have q3 := alloc_old (.cells #[.int .i64 0, .int .i64 7] 112) a3
  have q4 := alloc_old (.cells #[.int .i64 0, .int .i64 7] 112) b4
  have q5 := alloc_at (.cells #[.int .i64 0, .int .i64 7] 112) z3
  have hB' : Below w.heap.size w W3 := hB.trans (K123.below hB.size (fun i hi q => by omega))
  have hB3 := hB'.alloc hB'.size (.cells #[.int .i64 0, .int .i64 7] 112)
  generalize W3.alloc (.cells #[.int .i64 0, .int .i64 7] 112) = W4 at q2 q3 q4 q5 hB3 hU
  subst hU
  exact ⟨by show W4.cell? _ = _; simp [World.cell?, q2], by show W4.cell? _ = _; simp [World.cell?, q3], by show W4.cell? _ = _; simp [World.cell?, q4], q5, below_drewN hB3 1⟩
set_option maxHeartbeats 2000000 in
set_option maxRecDepth 100000 in
theorem scan_large (s : ByteArray) (w : World) (hs : 40000 < s.size) :
    Calls Tryz.prog 46 #[.string s] w (ScanPost s w (.bad 7 0)) := by
  have d0 : decide ((40000 : Int) < (s.size : Int)) = true := decide_eq_true (by omega)
  go_enter Tryz.func46, Tryz.ntmps46
  go_wp2_with fail
  refine (classes_any _).mono ?_
  rintro e w1 ⟨rfl, hb1⟩
  have h2 := alloc_old (.cells #[.nilIface] 46) (alloc_old (.cells #[.pointer none] 77) (alloc_at (w := w) (.cells #[.slice none 0 0] 22) rfl))
  have h3 := alloc_old (.cells #[.nilIface] 46) (alloc_at (w := w.alloc (.cells #[.slice none 0 0] 22)) (n := w.heap.size + 1) (.cells #[.pointer none] 77) (by simp))
  have h4 := alloc_at (w := (w.alloc (.cells #[.slice none 0 0] 22)).alloc (.cells #[.pointer none] 77)) (n := w.heap.size + 2) (.cells #[.nilIface] 46) (by simp)
  have hz : (((w.alloc (.cells #[.slice none 0 0] 22)).alloc (.cells #[.pointer none] 77)).alloc (.cells #[.nilIface] 46)).heap.size = w.heap.size + 3 := by simp
  have hB0 : Below w.heap.size w (((w.alloc (.cells #[.slice none 0 0] 22)).alloc (.cells #[.pointer none] 77)).alloc (.cells #[.nilIface] 46)) :=
    (((Below.refl _ w).alloc (Nat.le_refl _) _).alloc (by simp) _).alloc (by simp; omega) _
  have g2 := (hb1.block w.heap.size (by omega)).trans h2
  have g3 := (hb1.block (w.heap.size + 1) (by omega)).trans h3
  have g4 := (hb1.block (w.heap.size + 2) (by omega)).trans h4
  have hsz : w.heap.size + 3 ≤ w1.heap.size := by have := hb1.size; omega
  have hB1 : Below w.heap.size w w1 := hB0.trans (hb1.mono (by omega))
  clear hb1 h2 h3 h4 hz hB0
  go_wp2_with (refine wpList_build_as rfl 93 #[(0, .tmp 9), (2, .tmp 10)] rfl [(0, .string s), (2, .agg clsArr)] (by simp [Act.eval]) (scanArr s) (scan_built s) ?_)
  generalize hW : World.alloc (World.alloc w1 _) _ = W
  have e2 := alloc_old (.cells #[.pointer (some ⟨w1.heap.size, 0, none⟩)] 77) (alloc_old (.cells (scanArr s) 93) g2)
  have e3 := alloc_old (.cells #[.pointer (some ⟨w1.heap.size, 0, none⟩)] 77) (alloc_old (.cells (scanArr s) 93) g3)
  have e4 := alloc_old (.cells #[.pointer (some ⟨w1.heap.size, 0, none⟩)] 77) (alloc_old (.cells (scanArr s) 93) g4)
  have e5 := alloc_at (w := w1.alloc (.cells (scanArr s) 93)) (n := w1.heap.size + 1) (.cells #[.pointer (some ⟨w1.heap.size, 0, none⟩)] 77) (by simp)
  have hB2 := (hB1.alloc (by omega) (.cells (scanArr s) 93)).alloc (by simp; omega) (.cells #[.pointer (some ⟨w1.heap.size, 0, none⟩)] 77)
  have hWz : W.heap.size = w1.heap.size + 2 := by rw [← hW]; simp
  rw [hW] at e2 e3 e4 e5 hB2
  clear hW g2 g3 g4 hB1
  have c2 : W.cell? ⟨w.heap.size, 0, none⟩ = some (.slice none 0 0) := by simp [World.cell?, e2]
  have c3 : W.cell? ⟨w.heap.size + 1, 0, none⟩ = some (.pointer none) := by simp [World.cell?, e3]
  have c4 : W.cell? ⟨w.heap.size + 2, 0, none⟩ = some .nilIface := by simp [World.cell?, e4]
  have c5 : W.cell? ⟨w1.heap.size + 1, 0, none⟩ = some (.pointer (some ⟨w1.heap.size, 0, none⟩)) := by simp [World.cell?, e5]
  have f2 : W.frozen? ⟨w.heap.size, 0, none⟩ = false := by simp [World.frozen?, e2]
  have f3 : W.frozen? ⟨w.heap.size + 1, 0, none⟩ = false := by simp [World.frozen?, e3]
  have f4 : W.frozen? ⟨w.heap.size + 2, 0, none⟩ = false := by simp [World.frozen?, e4]
  have l2 : w.heap.size < W.heap.size := by omega
  have l3 : w.heap.size + 1 < W.heap.size := by omega
  have l4 : w.heap.size + 2 < W.heap.size := by omega
  have l5 : w1.heap.size + 1 < W.heap.size := by omega
  generalize w1.heap.size = b at c5 l5 hWz hsz e5 ⊢
  clear hWz e5
  go_wp2
  go_region
  generalize hU : World.drew (World.alloc _ _) = U
  obtain ⟨u2, u3, u4, hk, hBU⟩ := large_done e2 e3 e4 hB2 hU
  generalize W.heap.size = k at u4 hk
  clear hU c2 c3 c4 c5 f2 f3 f4 l2 l3 l4 l5 hsz e2 e3 e4 hB2
  go_wp2
  refine bodyPost_ret (v := .tuple #[.slice none 0 0, .pointer (some ⟨b, 0, none⟩), .iface 110 (.pointer (some ⟨k, 0, none⟩))]) ?_ rfl ?_
  · simp [results, Tryz.f46, go_sem, u2, u3, u4]
  exact ⟨b, k, rfl, hk, hBU⟩
set_option maxHeartbeats 1000000 in
set_option maxRecDepth 100000 in
theorem Scan_large (s : ByteArray) (w : World) (hs : 40000 < s.size) (hE : ErrT w) :
    Calls Tryz.prog 15 #[.string s] w (ScanOut s w (scanN s)) := by
  have hgE : 0 < w.heap.size := World.block_lt_of_cell? w _ hE
  have hS := scan_large s w hs
  rw [scan_long hs]
  go_enter Tryz.func15, Tryz.ntmps15
  go_wp2_with fail
  refine hS.mono ?_
  intro e w1 hP
  obtain ⟨b, k, rfl, hk, hb⟩ := hP
  go_wp2_with fail
  refine (told_fault k (0 : Nat) 7 w1 ((hb.cell (p := ⟨0, 0, none⟩) hgE).trans hE) hk).mono ?_
  rintro e w2 ⟨rfl, hb2⟩
  go_wp2_with fail
  go_ret3
  exact ⟨hb.trans (hb2.mono hb.size), rfl⟩
set_option maxHeartbeats 1000000 in
set_option maxRecDepth 100000 in
theorem Strip_large (s : ByteArray) (w : World) (hs : 40000 < s.size) (hE : ErrT w) :
    Calls Tryz.prog 21 #[.string s] w (StripOut s w (scanN s)) := by
  have hgE : 0 < w.heap.size := World.block_lt_of_cell? w _ hE
  have hS := scan_large s w hs
  rw [scan_long hs]
  go_enter Tryz.func21, Tryz.ntmps21
  go_wp2_with fail
  refine hS.mono ?_
  intro e w1 hP
  obtain ⟨b, k, rfl, hk, hb⟩ := hP
  go_wp2_with fail
  refine (told_fault k (0 : Nat) 7 w1 ((hb.cell (p := ⟨0, 0, none⟩) hgE).trans hE) hk).mono ?_
  rintro e w2 ⟨rfl, hb2⟩
  go_wp2
  go_ret3
  exact ⟨hb.trans (hb2.mono hb.size), rfl⟩
set_option maxHeartbeats 1000000 in
set_option maxRecDepth 100000 in
theorem rScan_large (s : ByteArray) (w : World) (hs : 40000 < s.size) :
    Calls Tryz.prog 20 #[.string s] w (rScanOut w (scanN s)) := by
  rw [scan_long hs]
  have d0 : decide ((40000 : Int) < (s.size : Int)) = true := decide_eq_true (by omega)
  go_enter Tryz.func20, Tryz.ntmps20
  go_wp2
  go_ret3
  exact ⟨Below.refl _ _, rfl⟩
set_option maxHeartbeats 1000000 in
set_option maxRecDepth 100000 in
theorem rStrip_large (s : ByteArray) (w : World) (hs : 40000 < s.size) :
    Calls Tryz.prog 22 #[.string s] w (StripOut s w (scanN s)) := by
  have hS := rScan_large s w hs
  rw [scan_long hs] at hS ⊢
  go_enter Tryz.func22, Tryz.ntmps22
  go_wp2_with fail
  refine hS.mono ?_
  rintro e w2 ⟨hb, rfl⟩
  go_wp2
  go_ret3
  exact ⟨hb, rfl⟩
end Go.Proofs.YtmapaagdaojpaaaGreatDoor
namespace Go.Proofs.YtmapaagdaojpaaaGreatDoor
open Go.RowKit

theorem scan_all (s : ByteArray) (mx : Int) (w : World) (hm : w.cell? ⟨1, 0, none⟩ = some (.int .i64 mx)) (hE : ErrT w) :
    Calls Tryz.prog 15 #[.string s] w (ScanOut s w (scanN s)) := by
  by_cases h : 40000 < s.size
  · exact Scan_large s w h hE
  · exact Scan_any s mx w (by omega) hm hE
theorem strip_all (s : ByteArray) (mx : Int) (w : World) (hm : w.cell? ⟨1, 0, none⟩ = some (.int .i64 mx)) (hE : ErrT w) :
    Calls Tryz.prog 21 #[.string s] w (StripOut s w (scanN s)) := by
  by_cases h : 40000 < s.size
  · exact Strip_large s w h hE
  · exact Strip_any s mx w (by omega) hm hE
theorem rscan_all (s : ByteArray) (w : World) : Calls Tryz.prog 20 #[.string s] w (rScanOut w (scanN s)) := by
  by_cases h : 40000 < s.size
  · exact rScan_large s w h
  · exact rScan_any s w (by omega)
theorem rstrip_all (s : ByteArray) (w : World) : Calls Tryz.prog 22 #[.string s] w (StripOut s w (scanN s)) := by
  by_cases h : 40000 < s.size
  · exact rStrip_large s w h
  · exact rStrip_any s w (by omega)
theorem scan_len (s : ByteArray) (l : List Tk) (sp : List (Nat × Nat)) (h : scanN s = .ok l sp) : l.length ≤ 40000 := by
  have h1 := scan_few h
  by_cases h2 : 40000 < s.size
  · rw [scan_long h2] at h; cases h
  · omega
def RowOut (l : List Ti) (x c : Int) (w : World) (e : Ending) (W' : World) : Prop := (∃ ao cap, e = .returned (.tuple #[.slice ao l.length cap, .int .i64 x, .int .i64 c]) ∧ TiRow ao l W') ∧ Below w.heap.size w W'
def TxtOut (t : ByteArray) (x c : Int) (w : World) (e : Ending) (W' : World) : Prop := e = .returned (.tuple #[.string t, .int .i64 x, .int .i64 c]) ∧ Below w.heap.size w W'
theorem scans_out (s : ByteArray) (mx : Int) (w : World) (hm : w.cell? ⟨1, 0, none⟩ = some (.int .i64 mx)) (hE : ErrT w) :
    ∃ (l : List Ti) (x c : Int) (t : ByteArray), l.length ≤ 40000 ∧ (∀ W, Below w.heap.size w W → Calls Tryz.prog 15 #[.string s] W (RowOut l x c W)) ∧ (∀ W, Calls Tryz.prog 20 #[.string s] W (RowOut l x c W)) ∧
      (∀ W, Below w.heap.size w W → Calls Tryz.prog 21 #[.string s] W (TxtOut t x c W)) ∧ (∀ W, Calls Tryz.prog 22 #[.string s] W (TxtOut t x c W)) := by
  have hgM : 1 < w.heap.size := World.block_lt_of_cell? w _ hm
  have hgE : 0 < w.heap.size := World.block_lt_of_cell? w _ hE
  have h1 := fun W (hb : Below w.heap.size w W) => scan_all s mx W ((hb.cell (p := ⟨1, 0, none⟩) hgM).trans hm) ((hb.cell (p := ⟨0, 0, none⟩) hgE).trans hE)
  have h2 := fun W => rscan_all s W
  have h3 := fun W (hb : Below w.heap.size w W) => strip_all s mx W ((hb.cell (p := ⟨1, 0, none⟩) hgM).trans hm) ((hb.cell (p := ⟨0, 0, none⟩) hgE).trans hE)
  have h4 := fun W => rstrip_all s W
  have hl := scan_len s
  generalize scanN s = R at h1 h2 h3 h4 hl
  cases R with
  | bad c x =>
    refine ⟨[], x, c, ⟨#[]⟩, Nat.zero_le _, fun W hb => (h1 W hb).mono ?_, fun W => (h2 W).mono ?_, fun W hb => (h3 W hb).mono ?_, fun W => (h4 W).mono ?_⟩
    · rintro e W' ⟨hB, rfl⟩; exact ⟨⟨none, 0, rfl, fun q => (q rfl).elim⟩, hB⟩
    · rintro e W' ⟨hB, rfl⟩; exact ⟨⟨none, 0, rfl, fun q => (q rfl).elim⟩, hB⟩
    · rintro e W' ⟨hB, rfl⟩; exact ⟨rfl, hB⟩
    · rintro e W' ⟨hB, rfl⟩; exact ⟨rfl, hB⟩
  | ok m sp =>
    have hmm : (m.map toTi).length = m.length := List.length_map ..
    refine ⟨m.map toTi, 0, 0, stripB s sp, by rw [hmm]; exact hl m sp rfl, fun W hb => (h1 W hb).mono ?_, fun W => (h2 W).mono ?_, fun W hb => (h3 W hb).mono ?_, fun W => (h4 W).mono ?_⟩
    · rintro e W' ⟨hB, vo, rfl, hown, _⟩
      rw [tk_ti, ← hmm] at hown
      obtain ⟨ao, cap, rfl, hrow⟩ := tiRow_own hown
      exact ⟨⟨ao, cap, rfl, hrow⟩, hB⟩
    · rintro e W' ⟨hB, vo, rfl, hown⟩
      rw [tk_ti, ← hmm] at hown
      obtain ⟨ao, cap, rfl, hrow⟩ := tiRow_own hown
      exact ⟨⟨ao, cap, rfl, hrow⟩, hB⟩
    · rintro e W' ⟨hB, rfl⟩; exact ⟨rfl, hB⟩
    · rintro e W' ⟨hB, rfl⟩; exact ⟨rfl, hB⟩
set_option maxHeartbeats 2000000 in
set_option maxRecDepth 100000 in
theorem TokenScans_any (s : ByteArray) (mx : Int) (w : World) (hA : AwakeAt w) (hm : w.cell? ⟨1, 0, none⟩ = some (.int .i64 mx)) (hE : ErrT w) :
    Calls Tryz.prog 5 #[.string s] w fun e w' => e = .returned (.bool true) ∧ Below w.heap.size w w' := by
  obtain ⟨l, x, c, t, hl, h1, h2, h3, h4⟩ := scans_out s mx w hm hE
  have HA : Hid (AwakeAt w) := hA
  clear hA hm hE
  by_cases hmid : 3000 < s.size ∧ s.size ≤ 40000
  · have d1 : decide ((3000 : Int) < (s.size : Int)) = true := decide_eq_true (by omega)
    have d2 : decide ((s.size : Int) ≤ (40000 : Int)) = true := decide_eq_true (by omega)
    clear hmid h1 h2 h3 h4
    go_enter Tryz.func5, Tryz.ntmps5
    go_wp2_with fail
    refine (HA.out w (Below.refl _ _)).mono ?_
    rintro e w1 ⟨rfl, hb⟩
    go_wp2_with fail
    go_ret
    exact ⟨rfl, hb⟩
  by_cases hsm : 3000 < s.size
  · have d1 : decide ((3000 : Int) < (s.size : Int)) = true := decide_eq_true (by omega)
    have d2 : decide ((s.size : Int) ≤ (40000 : Int)) = false := decide_eq_false (by omega)
    clear hmid hsm
    go_enter Tryz.func5, Tryz.ntmps5
    go_wp2_with fail
    refine (h1 w (Below.refl _ _)).mono ?_
    rintro e w1 ⟨⟨ao, cap, rfl, hr1⟩, hb1⟩
    have HB1 := Lib.hid hb1
    have HR1 := Lib.hid hr1
    clear hb1 hr1 h1
    go_wp2_with fail
    refine (h2 w1).mono ?_
    rintro e w2 ⟨⟨bo, cap2, rfl, hr2⟩, hb2⟩
    have HB2 : Hid (Below w.heap.size w w2) := Lib.hid (HB1.out.trans (hb2.mono HB1.out.size))
    have HR2 := Lib.hid hr2
    have HR1 := Lib.hid (HR1.out.below hb2)
    clear hb2 hr2 h2 HB1
    go_wp2_with fail
    refine (h3 w2 HB2.out).mono ?_
    rintro e w3 ⟨rfl, hb3⟩
    have HB3 : Hid (Below w.heap.size w w3) := Lib.hid (HB2.out.trans (hb3.mono HB2.out.size))
    have HR1 := Lib.hid (HR1.out.below hb3)
    have HR2 := Lib.hid (HR2.out.below hb3)
    clear hb3 h3 HB2
    go_wp2_with fail
    refine (h4 w3).mono ?_
    rintro e w4 ⟨rfl, hb4⟩
    have HB4 : Hid (Below w.heap.size w w4) := Lib.hid (HB3.out.trans (hb4.mono HB3.out.size))
    have hs := same_any l ao bo cap cap2 w4 (HR1.out.below hb4) (HR2.out.below hb4) hl
    generalize l.length = n at hs
    clear hb4 h4 HB3 HR1 HR2
    go_wp2_with fail
    refine hs.mono ?_
    rintro e w5 ⟨rfl, hb5⟩
    have HB5 : Hid (Below w.heap.size w w5) := Lib.hid (HB4.out.trans (hb5.mono HB4.out.size))
    clear hb5 hs HB4
    go_wp2_with fail
    refine (HA.out _ HB5.out).mono ?_
    rintro e w6 ⟨rfl, hb6⟩
    go_wp2_with fail
    go_ret
    exact ⟨rfl, HB5.out.trans (hb6.mono HB5.out.size)⟩
  · have d1 : decide ((3000 : Int) < (s.size : Int)) = false := decide_eq_false (by omega)
    clear hmid hsm
    go_enter Tryz.func5, Tryz.ntmps5
    go_wp2_with fail
    refine (h1 w (Below.refl _ _)).mono ?_
    rintro e w1 ⟨⟨ao, cap, rfl, hr1⟩, hb1⟩
    have HB1 := Lib.hid hb1
    have HR1 := Lib.hid hr1
    clear hb1 hr1 h1
    go_wp2_with fail
    refine (h2 w1).mono ?_
    rintro e w2 ⟨⟨bo, cap2, rfl, hr2⟩, hb2⟩
    have HB2 : Hid (Below w.heap.size w w2) := Lib.hid (HB1.out.trans (hb2.mono HB1.out.size))
    have HR2 := Lib.hid hr2
    have HR1 := Lib.hid (HR1.out.below hb2)
    clear hb2 hr2 h2 HB1
    go_wp2_with fail
    refine (h3 w2 HB2.out).mono ?_
    rintro e w3 ⟨rfl, hb3⟩
    have HB3 : Hid (Below w.heap.size w w3) := Lib.hid (HB2.out.trans (hb3.mono HB2.out.size))
    have HR1 := Lib.hid (HR1.out.below hb3)
    have HR2 := Lib.hid (HR2.out.below hb3)
    clear hb3 h3 HB2
    go_wp2_with fail
    refine (h4 w3).mono ?_
    rintro e w4 ⟨rfl, hb4⟩
    have HB4 : Hid (Below w.heap.size w w4) := Lib.hid (HB3.out.trans (hb4.mono HB3.out.size))
    have hs := same_any l ao bo cap cap2 w4 (HR1.out.below hb4) (HR2.out.below hb4) hl
    generalize l.length = n at hs
    clear hb4 h4 HB3 HR1 HR2
    go_wp2_with fail
    refine hs.mono ?_
    rintro e w5 ⟨rfl, hb5⟩
    have HB5 : Hid (Below w.heap.size w w5) := Lib.hid (HB4.out.trans (hb5.mono HB4.out.size))
    clear hb5 hs HB4
    go_wp2_with fail
    refine (HA.out _ HB5.out).mono ?_
    rintro e w6 ⟨rfl, hb6⟩
    go_wp2_with fail
    go_ret
    exact ⟨rfl, HB5.out.trans (hb6.mono HB5.out.size)⟩
end Go.Proofs.YtmapaagdaojpaaaGreatDoor
