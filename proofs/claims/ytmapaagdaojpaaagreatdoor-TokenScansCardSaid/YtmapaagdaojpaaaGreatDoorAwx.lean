/- The laws' example: awake returns true. What awake says of every later world. -/
import Derived.Test.YtmapaagdaojpaaaGreatDoorScan
import Derived.Test.YtmapaagdaojpaaaGreatDoorJoin
namespace Go.Proofs.YtmapaagdaojpaaaGreatDoor
open Go.RowKit

def exText : ByteArray := ⟨#[70, 123, 115, 46, 49, 61, 60, 70, 62, 59, 125]⟩
def exBad : ByteArray := ⟨#[97, 46, 98]⟩
def exL : List Tk := [⟨3, ⟨#[70]⟩, 0⟩, ⟨6, ⟨#[123]⟩, 1⟩, ⟨5, ⟨#[115, 46, 49]⟩, 2⟩, ⟨6, ⟨#[61]⟩, 5⟩, ⟨6, ⟨#[60]⟩, 6⟩, ⟨3, ⟨#[70]⟩, 7⟩, ⟨6, ⟨#[62]⟩, 8⟩, ⟨6, ⟨#[59]⟩, 9⟩, ⟨6, ⟨#[125]⟩, 10⟩]
theorem ex_scan : scanN exText = .ok exL [] := by rfl
theorem ex_bad : scanN exBad = .bad 44 1 := by rfl
theorem ex_ok : ∀ x ∈ exL, plainOk x.kind x.text = true := by
  have : exL.all (fun x => plainOk x.kind x.text) = true := by decide +kernel
  simpa using this
theorem ex_ap : ∀ i (h : i + 1 < exL.length), (apartB exL[i].kind && apartB exL[i + 1].kind) = false := by
  have : ∀ i : Fin 8, (apartB (exL[i.val]'(by have := i.2; show _ < 9; omega)).kind && apartB (exL[i.val + 1]'(by have := i.2; show _ < 9; omega)).kind) = false := by decide +kernel
  intro i h
  exact this ⟨i, by have : i + 1 < 9 := h; omega⟩
theorem ex_text : (⟨(textsB exL).toArray⟩ : ByteArray) = exText := by decide +kernel
set_option maxHeartbeats 1000000 in
set_option maxRecDepth 100000 in
theorem awake_any (m : Int) (w : World) (hm : w.cell? ⟨1, 0, none⟩ = some (.int .i64 m)) (hE : ErrT w) :
    Calls Tryz.prog 8 #[] w fun e w' => e = .returned (.bool true) ∧ Below w.heap.size w w' := by
  have hg : 1 < w.heap.size := World.block_lt_of_cell? w _ hm
  have hgE : 0 < w.heap.size := World.block_lt_of_cell? w _ hE
  have hS1 := Scan_any exText m w (by decide) hm hE
  rw [ex_scan] at hS1
  have HM := Lib.hid hm
  have HE : Hid (ErrT w) := hE
  clear hm hE
  go_enter Tryz.func8, Tryz.ntmps8
  go_wp2_with fail
  refine hS1.mono ?_
  clear hS1
  rintro e w1 ⟨hb1, vo, rfl, hrow, hnil⟩
  obtain ⟨g, cap, rfl⟩ : ∃ g cap, vo = .slice (some ⟨g, 0, none⟩) 9 cap := by
    rcases hrow.2 with ⟨_, hz⟩ | ⟨g, cap, cur, hv, _⟩
    · exact absurd (show (9 : Nat) = 0 from hz) (by decide)
    · exact ⟨g, cap, hv⟩
  have hJ := Join_plain exL _ w.heap.size w1 hrow (by decide) ex_ok ex_ap (by decide +kernel) (by decide +kernel) (by decide)
  rw [ex_text] at hJ
  clear hrow hnil
  go_wp2_with fail
  refine hJ.mono ?_
  clear hJ
  rintro e w2 ⟨rfl, hb2⟩
  have hb2' : Below w.heap.size w w2 := hb1.trans (hb2.mono hb1.size)
  have hS2 := Scan_any exBad m w2 (by decide) ((hb2'.cell (p := ⟨1, 0, none⟩) hg).trans HM.out) ((hb2'.cell (p := ⟨0, 0, none⟩) hgE).trans HE.out)
  rw [ex_bad] at hS2
  go_wp2_with fail
  refine hS2.mono ?_
  clear hS2
  rintro e w3 ⟨hb3, rfl⟩
  have hb3' : Below w.heap.size w w3 := hb2'.trans (hb3.mono hb2'.size)
  unfold exText
  go_wp2
  go_ret
  exact ⟨rfl, hb3'⟩
end Go.Proofs.YtmapaagdaojpaaaGreatDoor
namespace Go.Proofs.YtmapaagdaojpaaaGreatDoor
open Go.RowKit

/-- What awake says in every later world. -/
def AwakeAt (w : World) : Prop := ∀ W, Below w.heap.size w W → Calls Tryz.prog 8 #[] W fun e w' => e = .returned (.bool true) ∧ Below W.heap.size W w'
theorem AwakeAt.later {w w1 : World} (h : AwakeAt w) (hb : Below w.heap.size w w1) : AwakeAt w1 := fun W hW => h W (hb.trans (hW.mono hb.size))
end Go.Proofs.YtmapaagdaojpaaaGreatDoor
