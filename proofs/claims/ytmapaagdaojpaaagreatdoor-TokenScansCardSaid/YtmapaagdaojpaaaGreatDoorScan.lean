/- token.Scan = scanN. -/
import Derived.Test.YtmapaagdaojpaaaGreatDoorScn
import Derived.Test.YtmapaagdaojpaaaGreatDoorTold
namespace Go.Proofs.YtmapaagdaojpaaaGreatDoor
open Go.RowKit

def ScanOut (_s : ByteArray) (w : World) (R : ScanR) (e : Ending) (W' : World) : Prop :=
  Below w.heap.size w W' ∧ match R with
  | .bad c x => e = .returned (.tuple #[.slice none 0 0, .int .i64 x, .int .i64 c])
  | .ok l _ => ∃ vo, e = .returned (.tuple #[vo, .int .i64 0, .int .i64 0]) ∧ W'.ownsRow w.heap.size 27 3 vo l.length (tkCells l) ∧ (vo = .slice none 0 0 ↔ l = [])
set_option maxHeartbeats 1000000 in
set_option maxRecDepth 100000 in
theorem Scan_any (s : ByteArray) (m : Int) (w : World) (hs : s.size ≤ 40000) (hm : w.cell? ⟨1, 0, none⟩ = some (.int .i64 m)) (hE : ErrT w) :
    Calls Tryz.prog 15 #[.string s] w (ScanOut s w (scanN s)) := by
  have hg : 1 < w.heap.size := World.block_lt_of_cell? w _ hm
  have hgE : 0 < w.heap.size := World.block_lt_of_cell? w _ hE
  have hS := scan_any s m w hs hg hm
  generalize scanN s = R at hS ⊢
  go_enter Tryz.func15, Tryz.ntmps15
  go_wp2_with fail
  refine hS.mono ?_
  intro e w1 hP
  cases R with
  | bad c x =>
    obtain ⟨b, k, rfl, hk, hb⟩ := hP
    go_wp2_with fail
    refine (told_fault k x c w1 ((hb.cell (p := ⟨0, 0, none⟩) hgE).trans hE) hk).mono ?_
    rintro e w2 ⟨rfl, hb2⟩
    go_wp2_with fail
    go_ret3
    exact ⟨hb.trans (hb2.mono hb.size), rfl⟩
  | ok l sp =>
    obtain ⟨b, v, vo, rfl, hrow, hnil, hA, hb⟩ := hP
    go_wp2_with fail
    refine (told_nil w1).mono ?_
    rintro e w2 ⟨rfl, hb2⟩
    go_wp2_with fail
    go_ret3
    refine ⟨hb.trans (hb2.mono hb.size), vo, rfl, (Keep.of_below (S := fun _ => False) hb2).owns hrow (fun _ _ q => q), hnil⟩
end Go.Proofs.YtmapaagdaojpaaaGreatDoor
