/- alike: are two lists of tokens equal but for their places? Here: where they are, it says so. -/
import Derived.Test.YtmapaagdaojpaaaGreatDoorFw
import Derived.Test.YtmapaagdaojpaaaGreatDoorScw
namespace Go.Proofs.YtmapaagdaojpaaaGreatDoor
open Go.RowKit

def toTi (x : Tk) : Ti := ⟨x.kind, x.text, x.at_⟩
theorem tk_ti (m : List Tk) : tkCells m = tiCells (m.map toTi) := by
  simp [tkCells, tiCells, toTi, List.flatMap_map]
def kindText (x : Ti) : Int × ByteArray := (x.kind, x.text)
set_option maxHeartbeats 400000 in
theorem alikeF_any (kind : Int) (text : ByteArray) (a b : Int) (w : World) :
    Calls Tryz.prog 49 #[.agg #[.int .i64 kind, .string text, .int .i64 a], .agg #[.int .i64 kind, .string text, .int .i64 b]] w fun e w' => e = .returned (.bool true) ∧ Below w.heap.size w w' := by
  go_enter Tryz.func49, Tryz.ntmps49
  go_wp2
  go_ret
  exact ⟨rfl, (below_alloc1 w _).alloc (by simp) _⟩
set_option maxHeartbeats 2000000 in
set_option maxRecDepth 100000 in
theorem EqualTok_any (l m : List Ti) (ao bo : Option Addr) (cap cap2 : Nat) (w : World) (hl : TiRow ao l w) (hm : TiRow bo m w) (he : m.map kindText = l.map kindText) (hll : l.length ≤ 400) :
    Calls Tryz.prog 48 #[.slice ao l.length cap, .slice bo m.length cap2, .func (.func 49) #[] #[]] w fun e w' => e = .returned (.bool true) ∧ Below w.heap.size w w' := by
  have hlen : m.length = l.length := by have := congrArg List.length he; simpa using this
  have HL := Lib.hid hl
  have HM := Lib.hid hm
  have HE : Hid (∀ (k : Nat) (h : k < l.length) (h' : k < m.length), m[k].kind = l[k].kind ∧ m[k].text = l[k].text) := Lib.hid fun k h h' => by
    have h1 : (m.map kindText)[k]? = (l.map kindText)[k]? := by rw [he]
    rw [List.getElem?_map, List.getElem?_map, List.getElem?_eq_getElem h, List.getElem?_eq_getElem h'] at h1
    have h2 : kindText m[k] = kindText l[k] := by simpa using h1
    exact ⟨congrArg Prod.fst h2, congrArg Prod.snd h2⟩
  clear hl hm he
  have HN := Lib.hid hlen
  rw [hlen]
  clear hlen
  go_enter Tryz.func48, Tryz.ntmps48
  go_wp2
  go_loopw [17] (fun i wr => ∃ k : Nat, k ≤ l.length ∧ i = .int .i64 k ∧ Hid (Below w.heap.size w wr)) (fun i _ => l.length - (intOf i).toNat)
  case atStart => exact ⟨0, Nat.zero_le _, rfl, Lib.hid (Below.refl _ _)⟩
  case round =>
    obtain ⟨k, hk, rfl, HW⟩ := hrel
    by_cases hlt : k < l.length
    · have l0 : decide ((k : Int) < (l.length : Int)) = true := decide_eq_true (by omega)
      have wk : IntKind.i64.wrap ((k : Int) + 1) = k + 1 := IntWalk.i64_in _ (by omega)
      have hmk : k < m.length := by have := HN.out; omega
      obtain ⟨g, off, rfl, hgl, hcells⟩ := HL.out (by intro q; subst q; simp at hlt)
      obtain ⟨q0, q1, q2⟩ := hcells k hlt
      obtain ⟨g', off', rfl, hgl', hcells'⟩ := HM.out (by intro q; subst q; simp at hmk)
      obtain ⟨q0', q1', q2'⟩ := hcells' k hmk
      obtain ⟨e0, e1⟩ := HE.out k hlt hmk
      rw [e0] at q0'
      rw [e1] at q1'
      have r0 := (HW.out.cell (p := ⟨g, off + k * 3, none⟩) hgl).trans q0
      have r1 := (HW.out.cell (p := ⟨g, off + k * 3 + 1, none⟩) hgl).trans q1
      have r2 := (HW.out.cell (p := ⟨g, off + k * 3 + 2, none⟩) hgl).trans q2
      have s0 := (HW.out.cell (p := ⟨g', off' + k * 3, none⟩) hgl').trans q0'
      have s1 := (HW.out.cell (p := ⟨g', off' + k * 3 + 1, none⟩) hgl').trans q1'
      have s2 := (HW.out.cell (p := ⟨g', off' + k * 3 + 2, none⟩) hgl').trans q2'
      have hgw : g < wr.heap.size := Nat.lt_of_lt_of_le hgl HW.out.size
      have hgw' : g' < wr.heap.size := Nat.lt_of_lt_of_le hgl' HW.out.size
      clear q0 q1 q2 hcells q0' q1' q2' hcells' e0 e1
      generalize m[k].at_ = b at s2
      generalize l[k] = x at r0 r1 r2 s0 s1
      obtain ⟨kind, text, at_⟩ := x
      dsimp only at r0 r1 r2 s0 s1
      have hF := fun w => alikeF_any kind text at_ b w
      go_wp2_with (go_at_call 49; refine (hF _).mono ?_; rintro e w' ⟨rfl, hb⟩)
      go_roundw
      case rel => exact ⟨k + 1, by omega, by go_num, Lib.hid ((HW.out.alloc (by have := HW.out.size; omega) _).alloc (by have := HW.out.size; simp; omega) _ |>.trans (hb.mono (by have := HW.out.size; simp; omega)))⟩
      case measure => simp [intOf]; omega
    · have l0 : decide ((k : Int) < (l.length : Int)) = false := decide_eq_false (by omega)
      go_wp2
      go_ret
      exact ⟨rfl, HW.out⟩
theorem alike_any (l m : List Ti) (ao bo : Option Addr) (cap cap2 : Nat) (w : World) (hl : TiRow ao l w) (hm : TiRow bo m w) (he : m.map kindText = l.map kindText) (hll : l.length ≤ 400) :
    Calls Tryz.prog 16 #[.slice ao l.length cap, .slice bo m.length cap2] w fun e w' => e = .returned (.bool true) ∧ Below w.heap.size w w' := by
  have hE := EqualTok_any l m ao bo cap cap2 w hl hm he hll
  clear hl hm he
  go_enter Tryz.func16, Tryz.ntmps16
  go_wp2_with (go_at_call 48; refine hE.mono ?_; rintro e w1 ⟨rfl, hb⟩)
  go_ret
  exact ⟨rfl, hb⟩
end Go.Proofs.YtmapaagdaojpaaaGreatDoor
